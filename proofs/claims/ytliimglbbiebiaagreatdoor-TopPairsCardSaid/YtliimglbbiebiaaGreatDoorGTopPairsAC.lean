/- A part of the proof: Put, Get, Rem. -/
import Derived.Test.YtliimglbbiebiaaGreatDoorGTopPairsAB
set_option maxRecDepth 100000
set_option maxHeartbeats 6400000
section
namespace Go.Proofs.YtliimglbbiebiaaGreatDoor
open Go.RowKit Go.Maps
section
variable {base:Nat} {w w':World} {T:Tb} {X X':List MB}
theorem TBX.part_lt (h:TBX base w T X) {i:Nat} (hi:i < T.n):T.q i < w.heap.size∧T.mb i < w.heap.size:=⟨(h.part i hi).lt,(h.map i hi).lt⟩
theorem TBX.turn {S:Nat→Prop} (h:TBX base w T X) {i:Nat} (hi:i < T.n) (hf:Fr S w w') (hS:∀ k,S k→k=T.q i∨k=T.mb i∨¬ T.foot k)
 (hp:Blk w' (T.q i) 143 #[.int .i32 0,.int .u32 0,.map (some (T.mb i))]) (hm:HasMap uKeys w' (T.mb i) (ent T.n i X')) (he:∀ j,j≠i→j < T.n→ent T.n j X'=ent T.n j X)
 (hb:∀ x ∈ X',Own (intE .u8) 5 base w' x.bv x.m.body) (nd:(X'.map fun x=>x.m.uid).Nodup) (ok:∀ x ∈ X',x.m.ok∧x.m.body.length≤65536):TBX base w' T X':=by
 obtain ⟨cs,hpt,hpi⟩:=h.pt
 have htq:T.tb≠T.q i:=h.hd.ne_ (h.part i hi) (by decide)
 have htm:T.tb≠T.mb i:=Ne.symm ((h.map i hi).ne_blk h.hd)
 have hpq:T.pb≠T.q i:=hpt.ne_ (h.part i hi) (by decide)
 have hpm:T.pb≠T.mb i:=Ne.symm ((h.map i hi).ne_blk hpt)
 have hno:∀ k,T.foot k→k≠T.q i→k≠T.mb i→¬ S k:=fun k hk h1 h2 hs=>by
  rcases hS k hs with h3 | h3 | h3
  · exact h1 h3
  · exact h2 h3
  · exact h3 hk
 refine ⟨hf.blk h.hd (hno _ h.rtb htq htm),h.n0,h.n1,h.nc,⟨cs,hf.blk hpt (hno _ h.rpb hpq hpm),hpi⟩,fun j hj=>?_,fun j hj=>?_,hb,nd,ok,h.qinj,h.minj,h.rtb,h.rpb,h.rq,h.rm,Nat.le_trans h.top hf.size⟩
 · by_cases hji:j=i
   · subst hji; exact hp
   · exact hf.blk (h.part j hj) (hno _ (h.rq j hj) (fun e=>hji (h.qinj _ _ hj hi e)) (Ne.symm ((h.map i hi).ne_blk (h.part j hj))))
 · by_cases hji:j=i
   · subst hji; exact hm
   · rw [he j hji hj]
     exact (h.map j hj).fr hf (hno _ (h.rm j hj) ((h.map j hj).ne_blk (h.part i hi)) (fun e=>hji (h.minj _ _ hj hi e)))
theorem TBX.after (h:TBX base w T X) {i:Nat} (hi:i < T.n) (hf:Fr (fun k=>k=T.q i∨k=T.mb i) w w')
 (hp:Blk w' (T.q i) 143 #[.int .i32 0,.int .u32 0,.map (some (T.mb i))]) (hm:HasMap uKeys w' (T.mb i) (ent T.n i X')) (he:∀ j,j≠i→j < T.n→ent T.n j X'=ent T.n j X)
 (hb:∀ x ∈ X',Own (intE .u8) 5 base w x.bv x.m.body∨Own (intE .u8) 5 base w' x.bv x.m.body) (nd:(X'.map fun x=>x.m.uid).Nodup) (ok:∀ x ∈ X',x.m.ok∧x.m.body.length≤65536):TBX base w' T X'∧Fr T.foot w w':=by
 refine ⟨h.turn hi hf (fun k hk=>by rcases hk with hk | hk; exact .inl hk; exact .inr (.inl hk)) hp hm he (fun x hx=>?_) nd ok,fr_or hf fun k hk=>by rcases hk with rfl | rfl; exact h.rq i hi; exact h.rm i hi⟩
 rcases hb x hx with h1 | h1
 · refine h1.fr hf fun b hb hs=>?_
   obtain ⟨cs,h2⟩:=h1.heap hb
   rcases hs with rfl | rfl
   · exact h2.ne_ (h.part i hi) (by decide) rfl
   · exact (h.map i hi).ne_blk h2 rfl
 · exact h1
theorem TBX.stripe (h:TBX base w T X) (k:Int):∃ i:Nat,k % (T.n:Int)=i∧i < T.n:=by
 have h1:=h.n0
 have hm0:0≤k % (T.n:Int):=Int.emod_nonneg _ (by omega)
 have hm1:k % (T.n:Int) < T.n:=Int.emod_lt_of_pos _ (by omega)
 exact ⟨(k % (T.n:Int)).toNat,by omega,by omega⟩
theorem TBX.ptr (h:TBX base w T X) {i:Nat} (hi:i < T.n):w.cell? ⟨T.pb,i,none⟩=some (.pointer (some ⟨T.q i,0,none⟩)):=by
 obtain ⟨cs,hpt,hpi⟩:=h.pt
 rw [hpt.cell,hpi i hi]
theorem TBX.len (_:TBX base w T X) (i:Nat):(ent T.n i X).length≤X.length:=by
 unfold ent
 rw [List.length_map]
 exact List.length_filter_le _ _
end
theorem tdo_any {base:Nat} {w wq:World} {T:Tb} {X:List MB} (h:TBX base w T X) (hn1:New w wq) {i:Nat} (hi:i < T.n) (fn:Nat) (cap:Array Value) (Q:List MB→World→Prop)
 (hE:∀ args w,(callFunc fn args).run Tryz.prog w=.ok (.enter fn args) w)
 (hf:Calls Tryz.prog fn (#[.map (some (T.mb i))] ++ cap) (wq.setCell ⟨T.q i,0,none⟩ (.int .i32 1)) fun e w2=>e=.returned (.tuple #[])∧∃ X',HasMap uKeys w2 (T.mb i) (ent T.n i X') ∧
   Fr (fun k=>k=T.mb i∨w.heap.size≤k) (wq.setCell ⟨T.q i,0,none⟩ (.int .i32 1)) w2∧(∀ x ∈ X',Own (intE .u8) 5 base w x.bv x.m.body∨Own (intE .u8) 5 base w2 x.bv x.m.body) ∧
   (∀ j,j≠i→j < T.n→ent T.n j X'=ent T.n j X)∧(X'.map fun x=>x.m.uid).Nodup∧(∀ x ∈ X',x.m.ok∧x.m.body.length≤65536)∧Q X' w2) :
 Calls Tryz.prog 191 #[.pointer (some ⟨T.q i,0,none⟩),.func (.func fn) #[] cap] wq fun e w'=>e=.returned (.tuple #[])∧∃ X' w2,w'=w2.setCell ⟨T.q i,0,none⟩ (.int .i32 0)∧Q X' w2∧TBX base w' T X'∧Fr T.foot w w':=by
 have hT:=h.new hn1
 have hp:=hT.part i hi
 have hql:=(h.part_lt hi).1
 have hmq:T.mb i≠T.q i:=(hT.map i hi).ne_blk hp
 refine (do_any (T.q i) (T.mb i) fn cap (fun w2=>Fr (fun k=>k=T.mb i∨w.heap.size≤k) (wq.setCell ⟨T.q i,0,none⟩ (.int .i32 1)) w2∧∃ X',HasMap uKeys w2 (T.mb i) (ent T.n i X') ∧
  (∀ x ∈ X',Own (intE .u8) 5 base w x.bv x.m.body∨Own (intE .u8) 5 base w2 x.bv x.m.body) ∧
  (∀ j,j≠i→j < T.n→ent T.n j X'=ent T.n j X)∧(X'.map fun x=>x.m.uid).Nodup∧(∀ x ∈ X',x.m.ok∧x.m.body.length≤65536)∧Q X' w2) wq hp hE (hf.mono ?_) ?_).mono ?_
 · rintro e w2 ⟨rfl,X',h1,h2,h3⟩
   exact ⟨rfl,h2,X',h1,h3⟩
 · rintro w2 ⟨h2,_⟩
   exact h2.blk (hp.set_ 0 _) (fun hs=>by rcases hs with hs | hs; exact hmq hs.symm; omega)
 · rintro e w' ⟨rfl,w2,⟨h2,X',h1,h3,h4,h5,h6,h7⟩,rfl⟩
   have hp2:Blk w2 (T.q i) 143 #[.int .i32 1,.int .u32 0,.map (some (T.mb i))]:=h2.blk (hp.set_ 0 _) (fun hs=>by rcases hs with hs | hs; exact hmq hs.symm; omega)
   have hF:Fr (fun k=>k=T.q i∨k=T.mb i∨w.heap.size≤k) wq (w2.setCell ⟨T.q i,0,none⟩ (.int .i32 0)) :=
    Fr.setCell (Fr.trans (((Fr.refl _ _)).setCell (fun _=>.inl rfl) _) (fr_or h2 fun _ h=>.inr h)) (fun _=>.inl rfl) _
   have hFw:Fr (fun k=>k=T.q i∨k=T.mb i) w (w2.setCell ⟨T.q i,0,none⟩ (.int .i32 0)):=Fr.trans' (New.to hn1) hF fun k hk hs=>by
    rcases hs with hs | hs | hs
    · exact .inl hs
    · exact .inr hs
    · omega
   have hd:=h.after hi hFw (hp2.set_ 0 _) (h1.setCell (a:=⟨T.q i,0,none⟩) hmq _) h4 (fun x hx=>by
    rcases h3 x hx with h8 | h8
    · exact .inl h8
    · refine .inr (h8.fr (S:=fun k=>k=T.q i) ((Fr.refl (fun k=>k=T.q i) _).setCell (p:=⟨T.q i,0,none⟩) (fun _=>rfl) _) fun b hb hs=>?_)
      subst hs
      obtain ⟨cs,h9⟩:=h8.heap hb
      exact hp2.ne_ h9 (by decide) rfl) h5 h6
   exact ⟨rfl,X',w2,rfl,h7,hd.1,hd.2⟩
theorem MB.len_eq {w:World} {x:MB} (h:Rd (intE .u8) w x.bv x.m.body):x.n=x.m.body.length:=by
 obtain ⟨A',c',he,_⟩:=h
 injection he
theorem putC_ok {M:List Msg} {m:Msg} (h0:m.uid≠0) (h1:m.fl≤31) (h2:m.body.length≤65536):putC M m=if (findM M m.uid).isSome then 8 else 0:=by
 unfold putC
 rw [if_neg]
 rintro (h | h | h)
 · exact h0 h
 · omega
 · omega
theorem tput_range (b:Nat) (x:MB) (w:World) (hb:Rd (intE .u8) w x.bv x.m.body) (hc:x.m.uid=0∨31 < x.m.fl∨65536 < x.m.body.length) :
 Calls Tryz.prog 188 #[.pointer (some ⟨b,0,none⟩),x.val] w fun e w'=>e=.returned (.int .i64 2)∧New w w':=by
 obtain ⟨⟨uid,fl,body⟩,A,n,c⟩:=x
 have e2:n=body.length:=MB.len_eq hb
 subst e2
 simp only [MB.val] at hc ⊢
 by_cases h0:uid=0
 · have d0:(uid == 0)=true:=by simp [h0]
   clear hc h0
   go_enter Tryz.func188,Tryz.ntmps188
   go_wp2
   go_ret
   exact ⟨rfl,(New.refl w).alloc _⟩
 · have d0:(uid == 0)=false:=by simp [h0]
   by_cases h1:31 < fl
   · have d1:decide (31 < fl)=true:=decide_eq_true h1
     clear hc h0 h1
     go_enter Tryz.func188,Tryz.ntmps188
     go_wp2
     go_ret
     exact ⟨rfl,(New.refl w).alloc _⟩
   · have d1:decide (31 < fl)=false:=decide_eq_false h1
     have d2:decide ((65536:Int) < body.length)=true:=decide_eq_true (by omega)
     clear hc h0 h1
     go_enter Tryz.func188,Tryz.ntmps188
     go_wp2
     go_ret
     exact ⟨rfl,(New.refl w).alloc _⟩
theorem tput_has {base:Nat} {w:World} {T:Tb} {X:List MB} (h:TBX base w T X) (x y:MB) (hx:x.m.wf) (hb:Rd (intE .u8) w x.bv x.m.body)
 (h0:x.m.uid≠0) (h1:x.m.fl≤31) (h2:x.m.body.length≤65536) (hy:findX X x.m.uid=some y) :
 Calls Tryz.prog 188 #[.pointer (some ⟨T.tb,0,none⟩),x.val] w fun e w'=>e=.returned (.int .i64 8)∧(TBX base w' T X∧Fr T.foot w w'):=by
 obtain ⟨i,hi,hin⟩:=h.stripe x.m.uid
 have hget:=get_ent T.n hi X
 rw [hy] at hget
 obtain ⟨⟨uid,fl,body⟩,A,n,c⟩:=x
 have e2:n=body.length:=MB.len_eq hb
 subst e2
 have HB:=Lib.hid hb
 simp only [MB.val,Msg.wf] at hx h0 h1 h2 hget hi ⊢
 have d0:(uid == 0)=false:=by simp [h0]
 have d1:decide (31 < fl)=false:=decide_eq_false (by omega)
 have d2:decide ((65536:Int) < body.length)=false:=decide_eq_false (by omega)
 have hmf:∀ (fn:Fn) (first cap:Array Value) (w:World),(Instr.makeFunc fn first cap).run Tryz.prog w=.ok (.func fn first cap) w:=fun _ _ _ _=>rfl
 have hE:=enters _ _ _ Tryz.func239 (by kernel_rfl) rfl
 obtain ⟨wq,hwq⟩:∃ wq,wq=(w.alloc (.cells #[.int .u32 uid,.int .u8 fl,.slice A body.length c] 238)).alloc (.cells #[.int .i64 0] 198):=⟨_,rfl⟩
 have hn1:New w wq:=by rw [hwq]; exact ((New.refl w).alloc _).alloc _
 have hqs:wq.heap.size=w.heap.size + 2:=by rw [hwq]; simp
 have bg:Blk wq w.heap.size 238 #[.int .u32 uid,.int .u8 fl,.slice A body.length c]:=by rw [hwq]; exact (Blk.new _ _ _).alloc _
 have be:Blk wq (w.heap.size + 1) 198 #[.int .i64 0]:=by rw [hwq]; exact Blk.new1 _ _ _ _
 have hT:=h.new hn1
 have c0:wq.cell? ⟨T.tb,0,none⟩=some (.slice (some ⟨T.pb,0,none⟩) T.n T.c):=hT.hd.cell 0
 have cg:wq.cell? ⟨w.heap.size,0,none⟩=some (.int .u32 uid):=bg.cell 0
 have cp:=hT.ptr hin
 have hiI:(0:Int)≤(i:Int):=by omega
 have hnI:(i:Int) < (T.n:Int):=by omega
 have hql:=hT.part_lt hin
 have hwl:=h.part_lt hin
 have HWQ:=Lib.hid hwq
 go_enter Tryz.func188,Tryz.ntmps188
 go_wp2_with fail
 rw [← HWQ.out]
 clear HWQ hwq
 have hmq:T.mb i≠T.q i:=(hT.map i hin).ne_blk (hT.part i hin)
 have hgq:w.heap.size≠T.q i:=bg.ne_ (hT.part i hin) (by decide)
 have heq:w.heap.size + 1≠T.q i:=be.ne_ (hT.part i hin) (by decide)
 have hok:uKeys.ok uid:=okU hx.1.1 hx.1.2
 have HD:Hid (Calls Tryz.prog 191 #[.pointer (some ⟨T.q i,0,none⟩),.func (.func 239) #[] #[.pointer (some ⟨w.heap.size,0,none⟩),.pointer (some ⟨w.heap.size + 1,0,none⟩)]] wq.drew fun e w'=>e=.returned (.tuple #[])∧(TBX base w' T X∧Fr T.foot w w') ∧
  Blk w' w.heap.size 238 #[.int .u32 uid,.int .u8 fl,.slice A body.length c]∧Blk w' (w.heap.size + 1) 198 #[.int .i64 8]):=by
  refine (tdo_any h (hn1.drew) hin 239 #[.pointer (some ⟨w.heap.size,0,none⟩),.pointer (some ⟨w.heap.size + 1,0,none⟩)] (fun X' w2=>X'=X∧Blk w2 w.heap.size 238 #[.int .u32 uid,.int .u8 fl,.slice A body.length c]∧Blk w2 (w.heap.size + 1) 198 #[.int .i64 8]) hE ?_).mono ?_
  · refine (put1_has (w:=wq.drew.setCell ⟨T.q i,0,none⟩ (.int .i32 1)) (x:=⟨⟨uid,fl,body⟩,A,body.length,c⟩) (y:=y) ((hT.map i hin).drew.setCell (a:=⟨T.q i,0,none⟩) hmq _) hok (bg.drew.far (p:=⟨T.q i,0,none⟩) hgq _) (be.drew.far (p:=⟨T.q i,0,none⟩) heq _) hget).mono ?_
    rintro e w2 ⟨rfl,h5,h6⟩
    exact ⟨rfl,X,((hT.map i hin).drew.setCell (a:=⟨T.q i,0,none⟩) hmq _).fr h6 (by omega),fr_or h6 fun _ h=>.inr (by omega),fun x hx=>.inl (h.body x hx),fun _ _ _=>rfl,h.nd,h.ok,rfl,h6.blk (bg.drew.far (p:=⟨T.q i,0,none⟩) hgq _) (by omega),h5⟩
  · rintro e w' ⟨rfl,X',w2,rfl,⟨rfl,h5,h6⟩,h7,h8⟩
    exact ⟨rfl,⟨h7,h8⟩,h5.far (p:=⟨T.q i,0,none⟩) hgq _,h6.far (p:=⟨T.q i,0,none⟩) heq _⟩
 go_region_held3 (fun w'=>w'.cell? ⟨T.tb,0,none⟩=some (.slice (some ⟨T.pb,0,none⟩) T.n T.c)∧w'.cell? ⟨w.heap.size,0,none⟩=some (.int .u32 uid)∧w'.cell? ⟨T.pb,i,none⟩=some (.pointer (some ⟨T.q i,0,none⟩))) (first | go_keep | (refine ⟨?_,?_,?_⟩ <;> assumption))
  ((first
    | (go_at_call 238
       refine (tof_any (hT.new (by repeat' first | exact New.refl _ | apply Fr.drewN | apply Fr.drew)) uid (by omega) (by omega)).mono ?_
       rw [hi]
       rintro e w3 ⟨rfl,rfl⟩)
    | (go_at_call 191
       refine HD.out.mono ?_
       rintro e w4 ⟨rfl,hTn,h5,h6⟩
       have k0:w4.cell? ⟨T.tb,0,none⟩=some (.slice (some ⟨T.pb,0,none⟩) T.n T.c):=hTn.1.hd.cell 0
       have k1:w4.cell? ⟨w.heap.size,0,none⟩=some (.int .u32 uid):=h5.cell 0
       have k2:w4.cell? ⟨T.pb,i,none⟩=some (.pointer (some ⟨T.q i,0,none⟩)):=hTn.1.ptr hin
       have k3:w4.cell? ⟨w.heap.size + 1,0,none⟩=some (.int .i64 8):=h6.cell 0)
    | fail))
 all_goals
  go_wp2
  go_ret
  exact ⟨rfl,hTn⟩
theorem tput_new {base:Nat} {w:World} {T:Tb} {X:List MB} (h:TBX base w T X) (hbs:base≤w.heap.size) (hX:X.length≤100000) (x:MB) (hx:x.m.wf) (hb:Rd (intE .u8) w x.bv x.m.body)
 (h0:x.m.uid≠0) (h1:x.m.fl≤31) (h2:x.m.body.length≤65536) (hy:findX X x.m.uid=none) :
 Calls Tryz.prog 188 #[.pointer (some ⟨T.tb,0,none⟩),x.val] w fun e w'=>e=.returned (.int .i64 0)∧∃ y:MB,y.m=x.m∧(TBX base w' T (X ++ [y])∧Fr T.foot w w'):=by
 obtain ⟨i,hi,hin⟩:=h.stripe x.m.uid
 have hget:=get_ent T.n hi X
 rw [hy] at hget
 obtain ⟨⟨uid,fl,body⟩,A,n,c⟩:=x
 have e2:n=body.length:=MB.len_eq hb
 subst e2
 have HB:=Lib.hid hb
 simp only [MB.val,Msg.wf] at hx h0 h1 h2 hget hi ⊢
 have d0:(uid == 0)=false:=by simp [h0]
 have d1:decide (31 < fl)=false:=decide_eq_false (by omega)
 have d2:decide ((65536:Int) < body.length)=false:=decide_eq_false (by omega)
 have hmf:∀ (fn:Fn) (first cap:Array Value) (w:World),(Instr.makeFunc fn first cap).run Tryz.prog w=.ok (.func fn first cap) w:=fun _ _ _ _=>rfl
 have hE:=enters _ _ _ Tryz.func239 (by kernel_rfl) rfl
 obtain ⟨wq,hwq⟩:∃ wq,wq=(w.alloc (.cells #[.int .u32 uid,.int .u8 fl,.slice A body.length c] 238)).alloc (.cells #[.int .i64 0] 198):=⟨_,rfl⟩
 have hn1:New w wq:=by rw [hwq]; exact ((New.refl w).alloc _).alloc _
 have hqs:wq.heap.size=w.heap.size + 2:=by rw [hwq]; simp
 have bg:Blk wq w.heap.size 238 #[.int .u32 uid,.int .u8 fl,.slice A body.length c]:=by rw [hwq]; exact (Blk.new _ _ _).alloc _
 have be:Blk wq (w.heap.size + 1) 198 #[.int .i64 0]:=by rw [hwq]; exact Blk.new1 _ _ _ _
 have hT:=h.new hn1
 have c0:wq.cell? ⟨T.tb,0,none⟩=some (.slice (some ⟨T.pb,0,none⟩) T.n T.c):=hT.hd.cell 0
 have cg:wq.cell? ⟨w.heap.size,0,none⟩=some (.int .u32 uid):=bg.cell 0
 have cp:=hT.ptr hin
 have hiI:(0:Int)≤(i:Int):=by omega
 have hnI:(i:Int) < (T.n:Int):=by omega
 have hql:=hT.part_lt hin
 have hwl:=h.part_lt hin
 have HWQ:=Lib.hid hwq
 go_enter Tryz.func188,Tryz.ntmps188
 go_wp2_with fail
 rw [← HWQ.out]
 clear HWQ hwq
 have hmq:T.mb i≠T.q i:=(hT.map i hin).ne_blk (hT.part i hin)
 have hgq:w.heap.size≠T.q i:=bg.ne_ (hT.part i hin) (by decide)
 have heq:w.heap.size + 1≠T.q i:=be.ne_ (hT.part i hin) (by decide)
 have hok:uKeys.ok uid:=okU hx.1.1 hx.1.2
 have hx0:=hx
 have hnd:∀ y:MB,y.m=⟨uid,fl,body⟩→((X ++ [y]).map fun x=>x.m.uid).Nodup:=fun y hym=>by
  rw [List.map_append,List.nodup_append]
  refine ⟨h.nd,by simp,fun a ha b hb=>?_⟩
  obtain ⟨z,hz,rfl⟩:=List.mem_map.1 ha
  simp at hb
  rw [hb,hym]
  intro he
  have:=List.find?_eq_none.1 hy z hz
  simp at this
  exact this he
 have hlen:=h.len i
 have hga:get (ent T.n i X) uid=none:=hget
 have HD:Hid (Calls Tryz.prog 191 #[.pointer (some ⟨T.q i,0,none⟩),.func (.func 239) #[] #[.pointer (some ⟨w.heap.size,0,none⟩),.pointer (some ⟨w.heap.size + 1,0,none⟩)]] wq.drew fun e w'=>e=.returned (.tuple #[])∧(∃ y:MB,y.m=⟨uid,fl,body⟩∧TBX base w' T (X ++ [y])∧Fr T.foot w w') ∧
  Blk w' w.heap.size 238 #[.int .u32 uid,.int .u8 fl,.slice A body.length c]∧Blk w' (w.heap.size + 1) 198 #[.int .i64 0]):=by
  refine (tdo_any h (hn1.drew) hin 239 #[.pointer (some ⟨w.heap.size,0,none⟩),.pointer (some ⟨w.heap.size + 1,0,none⟩)] (fun X' w2=>(∃ y:MB,y.m=⟨uid,fl,body⟩∧X'=X ++ [y])∧Blk w2 w.heap.size 238 #[.int .u32 uid,.int .u8 fl,.slice A body.length c]∧Blk w2 (w.heap.size + 1) 198 #[.int .i64 0]) hE ?_).mono ?_
  · have hbq:Rd (intE .u8) (wq.drew.setCell ⟨T.q i,0,none⟩ (.int .i32 1)) (.slice A body.length c) body:=by
     have h9:Rd (intE .u8) wq.drew (.slice A body.length c) body:=HB.out.new hn1.drew
     obtain ⟨A',c',he,hc',hcell⟩:=h9
     cases he
     refine ⟨A,c,rfl,hc',fun hne=>?_⟩
     obtain ⟨b,off,rfl,hc⟩:=hcell hne
     refine ⟨b,off,rfl,fun i' x hx j u hu=>?_⟩
     have h10:=hc i' x hx j u hu
     rw [World.cell?_setCell_other _ _ _ _ (fun e=>?_)]
     · exact h10
     · have e1:T.q i=b:=congrArg Addr.block e
       have e2:(0:Nat)=off + (i' * (intE .u8).sz + j):=congrArg Addr.off e
       have h11:=(hT.part i hin).drew.cell 0
       rw [← e1,← e2,h11] at h10
       simp at h10
       have hj:j=0:=by have:=(List.getElem?_eq_some_iff.1 hu).1; simp [intE] at this; exact this
       subst hj
       simp [intE] at hu
       rw [← hu] at h10
       cases h10
    refine (put1_new (w:=wq.drew.setCell ⟨T.q i,0,none⟩ (.int .i32 1)) (x:=⟨⟨uid,fl,body⟩,A,body.length,c⟩) ((hT.map i hin).drew.setCell (a:=⟨T.q i,0,none⟩) hmq _) hok (by unfold maxLen; omega) (bg.drew.far (p:=⟨T.q i,0,none⟩) hgq _) (be.drew.far (p:=⟨T.q i,0,none⟩) heq _) hbq (by show body.length≤100000; omega) hga).mono ?_
    rintro e w2 ⟨rfl,y,hym,h5,h6,h7⟩
    have hsz:(wq.drew.setCell ⟨T.q i,0,none⟩ (.int .i32 1)).heap.size=w.heap.size + 2:=by simp [World.setCell]; exact hqs
    refine ⟨rfl,X ++ [y],?_,fr_or h7 fun _ h=>.inl h,fun x hx=>?_,fun j hj hjn=>?_,hnd y hym,fun x hx=>?_,⟨y,hym,rfl⟩,h7.blk (bg.drew.far (p:=⟨T.q i,0,none⟩) hgq _) (by omega),h7.blk (be.drew.far (p:=⟨T.q i,0,none⟩) heq _) (by omega)⟩
    · rw [ent_app,hym,if_pos hi]
      exact h5.perm (put_new_perm hga)
    · rcases List.mem_append.1 hx with hx | hx
      · exact .inl (h.body x hx)
      · simp at hx
        subst hx
        exact .inr (h6.mono (by rw [hsz]; omega))
    · rw [ent_app,hym,if_neg]
      simp only
      rw [hi]
      omega
    · rcases List.mem_append.1 hx with hx | hx
      · exact h.ok x hx
      · simp at hx
        subst hx
        rw [hym]
        exact ⟨⟨⟨by show 1≤uid; omega,hx0.1.2⟩,⟨hx0.2.1,h1⟩⟩,h2⟩
  · rintro e w' ⟨rfl,X',w2,rfl,⟨⟨y,hym,rfl⟩,h5,h6⟩,h7,h8⟩
    exact ⟨rfl,⟨y,hym,h7,h8⟩,h5.far (p:=⟨T.q i,0,none⟩) hgq _,h6.far (p:=⟨T.q i,0,none⟩) heq _⟩
 go_region_held3 (fun w'=>w'.cell? ⟨T.tb,0,none⟩=some (.slice (some ⟨T.pb,0,none⟩) T.n T.c)∧w'.cell? ⟨w.heap.size,0,none⟩=some (.int .u32 uid)∧w'.cell? ⟨T.pb,i,none⟩=some (.pointer (some ⟨T.q i,0,none⟩))) (first | go_keep | (refine ⟨?_,?_,?_⟩ <;> assumption))
  ((first
    | (go_at_call 238
       refine (tof_any (hT.new (by repeat' first | exact New.refl _ | apply Fr.drewN | apply Fr.drew)) uid (by omega) (by omega)).mono ?_
       rw [hi]
       rintro e w3 ⟨rfl,rfl⟩)
    | (go_at_call 191
       refine HD.out.mono ?_
       rintro e w4 ⟨rfl,⟨y,hym,hTn⟩,h5,h6⟩
       have k0:w4.cell? ⟨T.tb,0,none⟩=some (.slice (some ⟨T.pb,0,none⟩) T.n T.c):=hTn.1.hd.cell 0
       have k1:w4.cell? ⟨w.heap.size,0,none⟩=some (.int .u32 uid):=h5.cell 0
       have k2:w4.cell? ⟨T.pb,i,none⟩=some (.pointer (some ⟨T.q i,0,none⟩)):=hTn.1.ptr hin
       have k3:w4.cell? ⟨w.heap.size + 1,0,none⟩=some (.int .i64 0):=h6.cell 0)
    | fail))
 all_goals
  go_wp2
  go_ret
  exact ⟨rfl,y,hym,hTn⟩
theorem findX_isSome {X:List MB} {k:Int}:(findX X k).isSome=(findM (X.map MB.m) k).isSome:=by
 rw [findX_map]; cases findX X k <;> rfl
theorem tput_any {base:Nat} {w:World} {T:Tb} {X:List MB} (h:TBX base w T X) (hbs:base≤w.heap.size) (hX:X.length≤100000) (x:MB) (hx:x.m.wf) (hb:Rd (intE .u8) w x.bv x.m.body) :
 Calls Tryz.prog 188 #[.pointer (some ⟨T.tb,0,none⟩),x.val] w fun e w'=>e=.returned (.int .i64 (putC (X.map MB.m) x.m))∧∃ X',X'.map MB.m=putM (X.map MB.m) x.m∧X'.length≤X.length + 1∧TBX base w' T X'∧Fr T.foot w w':=by
 by_cases hc:x.m.uid=0∨31 < x.m.fl∨65536 < x.m.body.length
 · have hp:putC (X.map MB.m) x.m=2:=if_pos hc
   refine (tput_range T.tb x w hb hc).mono ?_
   rintro e w' ⟨rfl,hn⟩
   exact ⟨by rw [hp],X,by unfold putM; rw [hp]; rfl,by omega,h.new hn,New.to hn⟩
 · have h0:x.m.uid≠0:=fun e=>hc (.inl e)
   have h1:x.m.fl≤31:=by rcases Int.lt_or_le 31 x.m.fl with h | h; exact absurd (.inr (.inl h)) hc; exact h
   have h2:x.m.body.length≤65536:=by rcases Nat.lt_or_ge 65536 x.m.body.length with h | h; exact absurd (.inr (.inr h)) hc; exact h
   have hp:=putC_ok (M:=X.map MB.m) h0 h1 h2
   rw [← findX_isSome] at hp
   cases hy:findX X x.m.uid with
   | some y =>
     rw [hy] at hp
     have hp:putC (X.map MB.m) x.m=8:=hp
     refine (tput_has h x y hx hb h0 h1 h2 hy).mono ?_
     rintro e w' ⟨rfl,hn⟩
     exact ⟨by rw [hp],X,by unfold putM; rw [hp]; rfl,by omega,hn⟩
   | none =>
     rw [hy] at hp
     have hp:putC (X.map MB.m) x.m=0:=hp
     refine (tput_new h hbs hX x hx hb h0 h1 h2 hy).mono ?_
     rintro e w' ⟨rfl,y,hym,hn⟩
     exact ⟨by rw [hp],X ++ [y],by unfold putM; rw [hp,if_pos rfl,List.map_append,List.map_singleton,hym],by simp,hn⟩
end Go.Proofs.YtliimglbbiebiaaGreatDoor
end

section
namespace Go.Proofs.YtliimglbbiebiaaGreatDoor
open Go.RowKit Go.Maps
theorem loadMsg {w:World} {g:Nat} {a b c:Value} (h:Blk w g 238 #[a,b,c]):(loadVar 238 ⟨g,0,none⟩).run Tryz.prog w=.ok (.agg #[a,b,c]) w :=
 run_loadVar_row w g _ _ _ _ _ h Tryz.underlying238 rfl (by kernel_rfl)
theorem loadBool {w:World} {g:Nat} {a:Value} (h:Blk w g 4 #[a]):(loadVar 4 ⟨g,0,none⟩).run Tryz.prog w=.ok a w :=
 run_loadVar_one Tryz.underlying4 rfl (h.cell 0)
theorem TBX.found {base:Nat} {w:World} {T:Tb} {X:List MB} (h:TBX base w T X) (k:Int):Rd (intE .u8) w ((findX X k).getD mb0).bv ((findX X k).getD mb0).m.body∧((findX X k).getD mb0).m.body.length≤65536∧0≤((findX X k).getD mb0).m.fl∧((findX X k).getD mb0).m.fl≤31:=by
 cases hf:findX X k with
 | none=>exact ⟨Rd.nil (intE .u8) w,by simp [mb0,msg0],by simp [mb0,msg0],by simp [mb0,msg0]⟩
 | some x =>
   have hx:=(findX_mem hf).1
   have:=h.ok x hx
   exact ⟨(h.body x hx).rd,this.2,this.1.2.1,this.1.2.2⟩
theorem tget_any {base:Nat} {w:World} {T:Tb} {X:List MB} (h:TBX base w T X) (k:Int) (hk0:0≤k) (hk1:k≤4294967295) :
 Calls Tryz.prog 195 #[.pointer (some ⟨T.tb,0,none⟩),.int .u32 k] w fun e w'=>∃ y:MB,e=.returned (.tuple #[y.val,.bool (findX X k).isSome])∧y.m=((findX X k).getD mb0).m∧Own (intE .u8) 5 w.heap.size w' y.bv y.m.body∧(TBX base w' T X∧Fr T.foot w w'):=by
 obtain ⟨i,hi,hin⟩:=h.stripe k
 have hget:=get_ent T.n hi X
 have hfd:=h.found k
 have hmf:∀ (fn:Fn) (first cap:Array Value) (w:World),(Instr.makeFunc fn first cap).run Tryz.prog w=.ok (.func fn first cap) w:=fun _ _ _ _=>rfl
 have hE:=enters _ _ _ Tryz.func246 (by kernel_rfl) rfl
 obtain ⟨wq,hwq⟩:∃ wq,wq=((w.alloc (.cells #[.int .u32 k] 28)).alloc (.cells #[.int .u32 0,.int .u8 0,.slice none 0 0] 238)).alloc (.cells #[.bool false] 4):=⟨_,rfl⟩
 have hn1:New w wq:=by rw [hwq]; exact (((New.refl w).alloc _).alloc _).alloc _
 have hqs:wq.heap.size=w.heap.size + 3:=by rw [hwq]; simp
 have bk:Blk wq w.heap.size 28 #[.int .u32 k]:=by rw [hwq]; exact ((Blk.new _ _ _).alloc _).alloc _
 have bg:Blk wq (w.heap.size + 1) 238 #[.int .u32 0,.int .u8 0,.slice none 0 0]:=by rw [hwq]; exact (Blk.new1 _ _ _ _).alloc _
 have bo:Blk wq (w.heap.size + 2) 4 #[.bool false]:=by rw [hwq]; exact Blk.new2 _ _ _ _ _
 have hT:=h.new hn1
 have c0:wq.cell? ⟨T.tb,0,none⟩=some (.slice (some ⟨T.pb,0,none⟩) T.n T.c):=hT.hd.cell 0
 have cg:wq.cell? ⟨w.heap.size,0,none⟩=some (.int .u32 k):=bk.cell 0
 have cp:=hT.ptr hin
 have hiI:(0:Int)≤(i:Int):=by omega
 have hnI:(i:Int) < (T.n:Int):=by omega
 have hql:=hT.part_lt hin
 have hwl:=h.part_lt hin
 have hmq:T.mb i≠T.q i:=(hT.map i hin).ne_blk (hT.part i hin)
 have hkq:w.heap.size≠T.q i:=bk.ne_ (hT.part i hin) (by decide)
 have hgq:w.heap.size + 1≠T.q i:=bg.ne_ (hT.part i hin) (by decide)
 have hoq:w.heap.size + 2≠T.q i:=bo.ne_ (hT.part i hin) (by decide)
 have hok:uKeys.ok k:=okU hk0 hk1
 obtain ⟨o,ho⟩:∃ o,findX X k=o:=⟨_,rfl⟩
 rw [ho] at hget hfd ⊢
 have HFD:=Lib.hid (fun (w4:World) (h4:TBX base w4 T X)=>(by have:=(h4.found k).1; rw [ho] at this; exact this:Rd (intE .u8) w4 (o.getD mb0).bv (o.getD mb0).m.body))
 have htop:=h.top
 have HD:Hid (Calls Tryz.prog 191 #[.pointer (some ⟨T.q i,0,none⟩),.func (.func 246) #[] #[.pointer (some ⟨w.heap.size,0,none⟩),.pointer (some ⟨w.heap.size + 1,0,none⟩),.pointer (some ⟨w.heap.size + 2,0,none⟩)]] wq.drew fun e w'=>e=.returned (.tuple #[])∧(TBX base w' T X∧Fr T.foot w w') ∧
  Blk w' w.heap.size 28 #[.int .u32 k]∧Blk w' (w.heap.size + 1) 238 #[.int .u32 (o.getD mb0).m.uid,.int .u8 (o.getD mb0).m.fl,(o.getD mb0).bv]∧Blk w' (w.heap.size + 2) 4 #[.bool o.isSome]∧w.heap.size + 3≤w'.heap.size):=by
  refine (tdo_any h (hn1.drew) hin 246 #[.pointer (some ⟨w.heap.size,0,none⟩),.pointer (some ⟨w.heap.size + 1,0,none⟩),.pointer (some ⟨w.heap.size + 2,0,none⟩)]
   (fun X' w2=>X'=X∧Blk w2 w.heap.size 28 #[.int .u32 k]∧Blk w2 (w.heap.size + 1) 238 #[.int .u32 (o.getD mb0).m.uid,.int .u8 (o.getD mb0).m.fl,(o.getD mb0).bv]∧Blk w2 (w.heap.size + 2) 4 #[.bool o.isSome]∧w.heap.size + 3≤w2.heap.size) hE ?_).mono ?_
  · have hm1:=(hT.map i hin).drew.setCell (a:=⟨T.q i,0,none⟩) hmq (.int .i32 1)
    have hsz:(wq.drew.setCell ⟨T.q i,0,none⟩ (.int .i32 1)).heap.size=w.heap.size + 3:=by simp [World.setCell]; exact hqs
    refine (get1_any (w:=wq.drew.setCell ⟨T.q i,0,none⟩ (.int .i32 1)) hm1 hok (bk.drew.far (p:=⟨T.q i,0,none⟩) hkq _) (bg.drew.far (p:=⟨T.q i,0,none⟩) hgq _) rfl (bo.drew.far (p:=⟨T.q i,0,none⟩) hoq _) hget).mono ?_
    rintro e w2 ⟨rfl,h5,h6,h7⟩
    exact ⟨rfl,X,hm1.fr h7 (by omega),fr_or h7 fun _ h=>.inr (by omega),fun x hx=>.inl (h.body x hx),fun _ _ _=>rfl,h.nd,h.ok,rfl,h7.blk (bk.drew.far (p:=⟨T.q i,0,none⟩) hkq _) (by omega),h5,h6,by rw [← hsz]; exact h7.size⟩
  · rintro e w' ⟨rfl,X',w2,rfl,⟨rfl,h5,h6,h6',h6s⟩,h7,h8⟩
    exact ⟨rfl,⟨h7,h8⟩,h5.far (p:=⟨T.q i,0,none⟩) hkq _,h6.far (p:=⟨T.q i,0,none⟩) hgq _,h6'.far (p:=⟨T.q i,0,none⟩) hoq _,by simpa [World.setCell] using h6s⟩
 generalize o.getD mb0=x at *
 generalize o.isSome=q at *
 obtain ⟨⟨uid,fl,body⟩,A,n,c⟩:=x
 simp only [MB.bv] at hfd HD HFD ⊢
 have HWQ:=Lib.hid hwq
 clear hget
 go_enter Tryz.func195,Tryz.ntmps195
 go_wp2_with fail
 rw [← HWQ.out]
 clear HWQ hwq
 go_region_held3 (fun w'=>w'.cell? ⟨T.tb,0,none⟩=some (.slice (some ⟨T.pb,0,none⟩) T.n T.c)∧w'.cell? ⟨w.heap.size,0,none⟩=some (.int .u32 k)∧w'.cell? ⟨T.pb,i,none⟩=some (.pointer (some ⟨T.q i,0,none⟩))) (first | go_keep | (refine ⟨?_,?_,?_⟩ <;> assumption))
  ((first
    | (go_at_call 238
       refine (tof_any (hT.new (by repeat' first | exact New.refl _ | apply Fr.drewN | apply Fr.drew)) k (by omega) (by omega)).mono ?_
       rw [hi]
       rintro e w3 ⟨rfl,rfl⟩)
    | (go_at_call 191
       refine HD.out.mono ?_
       rintro e w4 ⟨rfl,hTn,h5,h6,h7,h7s⟩
       have k0:w4.cell? ⟨T.tb,0,none⟩=some (.slice (some ⟨T.pb,0,none⟩) T.n T.c):=hTn.1.hd.cell 0
       have k1:w4.cell? ⟨w.heap.size,0,none⟩=some (.int .u32 k):=h5.cell 0
       have k2:w4.cell? ⟨T.pb,i,none⟩=some (.pointer (some ⟨T.q i,0,none⟩)):=hTn.1.ptr hin)
    | fail))
 all_goals
  clear cg c0 cp HD k0 k1 k2
  have g0:w4.drew.cell? ⟨w.heap.size + 1,0,none⟩=some (.int .u32 uid):=h6.cell 0
  have g1:w4.drew.cell? ⟨w.heap.size + 1,1,none⟩=some (.int .u8 fl):=h6.cell 1
  have g2:w4.drew.cell? ⟨w.heap.size + 1,2,none⟩=some (.slice A n c):=h6.cell 2
  have o0:w4.drew.cell? ⟨w.heap.size + 1 + 1,0,none⟩=some (.bool q):=h7.cell 0
  have hrd:Rd (intE .u8) w4.drew (.slice A n c) body:=HFD.out _ hTn.1.drew
  have HRD:=Lib.hid hrd
  have HBL:=Lib.hid hfd.2.1
  clear hfd hrd
  go_wp2_with fail
  go_region_with ((first
   | (go_at_call 240
      refine (mclone_any ⟨⟨uid,fl,body⟩,A,n,c⟩ _ HRD.out (by have:=HBL.out; show body.length≤100000; omega)).mono ?_
      rintro e w5 ⟨⟨⟨uid',fl',body'⟩,A',n',c'⟩,rfl,hym,hyo,hn5⟩
      simp only [MB.bv,MB.val] at hym hyo ⊢
      have b6:=hn5.blk h6.drew
      have b7:=hn5.blk h7.drew
      have p0:=b6.cell 0
      have p1:=b6.cell 1
      have p2:=b6.cell 2
      have z0:=b6.frozen 0
      have z1:=b6.frozen 1
      have z2:=b6.frozen 2
      have p3:w5.cell? ⟨w.heap.size + 1 + 1,0,none⟩=some (.bool q):=b7.cell 0
      have z3:w5.frozen? ⟨w.heap.size + 1 + 1,0,none⟩=false:=b7.frozen 0)
   | fail))
 all_goals
  go_wp2
  have hF:Fr (fun k=>k=w.heap.size + 1∨k=w.heap.size + 2) w5 ((((w5.setCell ⟨w.heap.size + 1,0,none⟩ (.int .u32 uid')).setCell ⟨w.heap.size + 1,1,none⟩ (.int .u8 fl')).setCell ⟨w.heap.size + 1,2,none⟩ (.slice A' n' c')).setCell ⟨w.heap.size + 1 + 1,0,none⟩ (.bool q)) :=
   ((((Fr.refl _ _).setCell (fun _=>.inl rfl) _).setCell (fun _=>.inl rfl) _).setCell (fun _=>.inl rfl) _).setCell (fun _=>.inr rfl) _
  have e6:Blk ((((w5.setCell ⟨w.heap.size + 1,0,none⟩ (.int .u32 uid')).setCell ⟨w.heap.size + 1,1,none⟩ (.int .u8 fl')).setCell ⟨w.heap.size + 1,2,none⟩ (.slice A' n' c')).setCell ⟨w.heap.size + 1 + 1,0,none⟩ (.bool q)) (w.heap.size + 1) 238 #[.int .u32 uid',.int .u8 fl',.slice A' n' c'] :=
   (((b6.set_ 0 _).set_ 1 _).set_ 2 _).far (by simp) _
  have e7:Blk ((((w5.setCell ⟨w.heap.size + 1,0,none⟩ (.int .u32 uid')).setCell ⟨w.heap.size + 1,1,none⟩ (.int .u8 fl')).setCell ⟨w.heap.size + 1,2,none⟩ (.slice A' n' c')).setCell ⟨w.heap.size + 1 + 1,0,none⟩ (.bool q)) (w.heap.size + 1 + 1) 4 #[.bool q] :=
   (((b7.far (by simp) _).far (by simp) _).far (by simp) _).set_ 0 _
  have hT5:TBX base w5 T X:=hTn.1.drew.new hn5
  have hb5:=fun b hb=>(hyo.block (b:=b) hb).1
  refine bodyPost_ret (results_cells rfl _ _ rfl rfl (loadMsg e6) (loadBool e7)) rfl ?_
  refine ⟨⟨⟨uid',fl',body'⟩,A',n',c'⟩,rfl,hym,(hyo.fr hF fun b hb hs=>?_).mono (by show w.heap.size≤w4.heap.size; omega),hT5.fr hF (fun k hk hft=>?_) (fun v l hv b hb hs=>?_),Fr.trans' hTn.2 (Fr.trans' (New.to (Fr.trans ((New.refl w4).drew) hn5)) hF fun _ _ h=>h) (fun k hk hs=>?_)⟩
  · have h1:=hb5 b hb
    have h2:w4.drew.heap.size=w4.heap.size:=rfl
    rcases hs with rfl | rfl <;> omega
  · have h1:=hft.2
    rcases hk with rfl | rfl <;> omega
  · obtain ⟨cs,h1⟩:=hv.heap hb
    rcases hs with rfl | rfl
    · exact h1.ne_ b6 (by decide) rfl
    · exact h1.ne_ b7 (by decide) rfl
  · rcases hs with rfl | rfl <;> omega
end Go.Proofs.YtliimglbbiebiaaGreatDoor
end

section
namespace Go.Proofs.YtliimglbbiebiaaGreatDoor
open Go.RowKit Go.Maps
theorem tremove_any {base:Nat} {w:World} {T:Tb} {X:List MB} (h:TBX base w T X) (hbase:T.hi≤base) (k:Int) (hk0:0≤k) (hk1:k≤4294967295) :
 Calls Tryz.prog 193 #[.pointer (some ⟨T.tb,0,none⟩),.int .u32 k] w fun e w'=>e=.returned (.tuple #[((findX X k).getD mb0).val,.bool (findX X k).isSome])∧Rd (intE .u8) w' ((findX X k).getD mb0).bv ((findX X k).getD mb0).m.body∧(TBX base w' T (remX X k)∧Fr T.foot w w'):=by
 obtain ⟨i,hi,hin⟩:=h.stripe k
 have hget:=get_ent T.n hi X
 have hfd:=h.found k
 have hmf:∀ (fn:Fn) (first cap:Array Value) (w:World),(Instr.makeFunc fn first cap).run Tryz.prog w=.ok (.func fn first cap) w:=fun _ _ _ _=>rfl
 have hE:=enters _ _ _ Tryz.func245 (by kernel_rfl) rfl
 obtain ⟨wq,hwq⟩:∃ wq,wq=((w.alloc (.cells #[.int .u32 k] 28)).alloc (.cells #[.int .u32 0,.int .u8 0,.slice none 0 0] 238)).alloc (.cells #[.bool false] 4):=⟨_,rfl⟩
 have hn1:New w wq:=by rw [hwq]; exact (((New.refl w).alloc _).alloc _).alloc _
 have hqs:wq.heap.size=w.heap.size + 3:=by rw [hwq]; simp
 have bk:Blk wq w.heap.size 28 #[.int .u32 k]:=by rw [hwq]; exact ((Blk.new _ _ _).alloc _).alloc _
 have bg:Blk wq (w.heap.size + 1) 238 #[.int .u32 0,.int .u8 0,.slice none 0 0]:=by rw [hwq]; exact (Blk.new1 _ _ _ _).alloc _
 have bo:Blk wq (w.heap.size + 2) 4 #[.bool false]:=by rw [hwq]; exact Blk.new2 _ _ _ _ _
 have hT:=h.new hn1
 have c0:wq.cell? ⟨T.tb,0,none⟩=some (.slice (some ⟨T.pb,0,none⟩) T.n T.c):=hT.hd.cell 0
 have cg:wq.cell? ⟨w.heap.size,0,none⟩=some (.int .u32 k):=bk.cell 0
 have cp:=hT.ptr hin
 have hiI:(0:Int)≤(i:Int):=by omega
 have hnI:(i:Int) < (T.n:Int):=by omega
 have hql:=hT.part_lt hin
 have hwl:=h.part_lt hin
 have hmq:T.mb i≠T.q i:=(hT.map i hin).ne_blk (hT.part i hin)
 have hkq:w.heap.size≠T.q i:=bk.ne_ (hT.part i hin) (by decide)
 have hgq:w.heap.size + 1≠T.q i:=bg.ne_ (hT.part i hin) (by decide)
 have hoq:w.heap.size + 2≠T.q i:=bo.ne_ (hT.part i hin) (by decide)
 have hok:uKeys.ok k:=okU hk0 hk1
 obtain ⟨o,ho⟩:∃ o,findX X k=o:=⟨_,rfl⟩
 rw [ho] at hget hfd ⊢
 have HFD:=Lib.hid (fun (w4:World) (h4:Fr T.foot w w4)=>(by
  cases o with
  | none=>exact Rd.nil (intE .u8) w4
  | some x=>exact ((h.body x (findX_mem ho).1).fr h4 (fun b hb hs=>by have:=((h.body x (findX_mem ho).1).block hb).1; have:=hs.2; omega)).rd:Rd (intE .u8) w4 (o.getD mb0).bv (o.getD mb0).m.body))
 have htop:=h.top
 have hnd:((remX X k).map fun x=>x.m.uid).Nodup:=h.nd.sublist (List.Sublist.map _ List.filter_sublist)
 have hsub:∀ x ∈ remX X k,x ∈ X:=fun x hx=>(List.mem_filter.1 hx).1
 have hoth:∀ j,j≠i→j < T.n→ent T.n j (remX X k)=ent T.n j X:=fun j hj hjn=>by
  rw [ent_rem]
  unfold del
  rw [List.filter_eq_self]
  intro p hp
  have:=ent_other T.n (i:=j) (X:=X) (k:=k) (by rw [hi]; omega) p hp
  simpa using this
 have HD:Hid (Calls Tryz.prog 191 #[.pointer (some ⟨T.q i,0,none⟩),.func (.func 245) #[] #[.pointer (some ⟨w.heap.size,0,none⟩),.pointer (some ⟨w.heap.size + 1,0,none⟩),.pointer (some ⟨w.heap.size + 2,0,none⟩)]] wq.drew fun e w'=>e=.returned (.tuple #[])∧(TBX base w' T (remX X k)∧Fr T.foot w w') ∧
  Blk w' w.heap.size 28 #[.int .u32 k]∧Blk w' (w.heap.size + 1) 238 #[.int .u32 (o.getD mb0).m.uid,.int .u8 (o.getD mb0).m.fl,(o.getD mb0).bv]∧Blk w' (w.heap.size + 2) 4 #[.bool o.isSome]∧w.heap.size + 3≤w'.heap.size):=by
  refine (tdo_any h (hn1.drew) hin 245 #[.pointer (some ⟨w.heap.size,0,none⟩),.pointer (some ⟨w.heap.size + 1,0,none⟩),.pointer (some ⟨w.heap.size + 2,0,none⟩)]
   (fun X' w2=>X'=remX X k∧Blk w2 w.heap.size 28 #[.int .u32 k]∧Blk w2 (w.heap.size + 1) 238 #[.int .u32 (o.getD mb0).m.uid,.int .u8 (o.getD mb0).m.fl,(o.getD mb0).bv]∧Blk w2 (w.heap.size + 2) 4 #[.bool o.isSome]∧w.heap.size + 3≤w2.heap.size) hE ?_).mono ?_
  · have hm1:=(hT.map i hin).drew.setCell (a:=⟨T.q i,0,none⟩) hmq (.int .i32 1)
    have hsz:(wq.drew.setCell ⟨T.q i,0,none⟩ (.int .i32 1)).heap.size=w.heap.size + 3:=by simp [World.setCell]; exact hqs
    refine (remove1_any (w:=wq.drew.setCell ⟨T.q i,0,none⟩ (.int .i32 1)) hm1 hok (bk.drew.far (p:=⟨T.q i,0,none⟩) hkq _) (bg.drew.far (p:=⟨T.q i,0,none⟩) hgq _) rfl (bo.drew.far (p:=⟨T.q i,0,none⟩) hoq _) hget).mono ?_
    rintro e w2 ⟨rfl,h5,h6,h7m,h7⟩
    exact ⟨rfl,remX X k,by rw [ent_rem]; exact h7m,fr_or h7 fun _ h=>by rcases h with h | h | h; exact .inl h; exact .inr (by omega); exact .inr (by omega),fun x hx=>.inl (h.body x (hsub x hx)),hoth,hnd,fun x hx=>h.ok x (hsub x hx),rfl,h7.blk (bk.drew.far (p:=⟨T.q i,0,none⟩) hkq _) (by omega),h5,h6,by rw [← hsz]; exact h7.size⟩
  · rintro e w' ⟨rfl,X',w2,rfl,⟨rfl,h5,h6,h6',h6s⟩,h7,h8⟩
    exact ⟨rfl,⟨h7,h8⟩,h5.far (p:=⟨T.q i,0,none⟩) hkq _,h6.far (p:=⟨T.q i,0,none⟩) hgq _,h6'.far (p:=⟨T.q i,0,none⟩) hoq _,by simpa [World.setCell] using h6s⟩
 generalize o.getD mb0=x at *
 generalize o.isSome=q at *
 obtain ⟨⟨uid,fl,body⟩,A,n,c⟩:=x
 simp only [MB.bv] at hfd HD HFD ⊢
 have HWQ:=Lib.hid hwq
 clear hget
 go_enter Tryz.func193,Tryz.ntmps193
 go_wp2_with fail
 rw [← HWQ.out]
 clear HWQ hwq
 go_region_held3 (fun w'=>w'.cell? ⟨T.tb,0,none⟩=some (.slice (some ⟨T.pb,0,none⟩) T.n T.c)∧w'.cell? ⟨w.heap.size,0,none⟩=some (.int .u32 k)∧w'.cell? ⟨T.pb,i,none⟩=some (.pointer (some ⟨T.q i,0,none⟩))) (first | go_keep | (refine ⟨?_,?_,?_⟩ <;> assumption))
  ((first
    | (go_at_call 238
       refine (tof_any (hT.new (by repeat' first | exact New.refl _ | apply Fr.drewN | apply Fr.drew)) k (by omega) (by omega)).mono ?_
       rw [hi]
       rintro e w3 ⟨rfl,rfl⟩)
    | (go_at_call 191
       refine HD.out.mono ?_
       rintro e w4 ⟨rfl,hTn,h5,h6,h7,h7s⟩
       have k0:w4.cell? ⟨T.tb,0,none⟩=some (.slice (some ⟨T.pb,0,none⟩) T.n T.c):=hTn.1.hd.cell 0
       have k1:w4.cell? ⟨w.heap.size,0,none⟩=some (.int .u32 k):=h5.cell 0
       have k2:w4.cell? ⟨T.pb,i,none⟩=some (.pointer (some ⟨T.q i,0,none⟩)):=hTn.1.ptr hin)
    | fail))
 all_goals
  clear cg c0 cp HD k0 k1 k2
  have g0:w4.drew.cell? ⟨w.heap.size + 1,0,none⟩=some (.int .u32 uid):=h6.cell 0
  have g1:w4.drew.cell? ⟨w.heap.size + 1,1,none⟩=some (.int .u8 fl):=h6.cell 1
  have g2:w4.drew.cell? ⟨w.heap.size + 1,2,none⟩=some (.slice A n c):=h6.cell 2
  have o0:w4.drew.cell? ⟨w.heap.size + 1 + 1,0,none⟩=some (.bool q):=h7.cell 0
  have y0:w4.drew.frozen? ⟨w.heap.size + 1,0,none⟩=false:=h6.frozen 0
  have y1:w4.drew.frozen? ⟨w.heap.size + 1,1,none⟩=false:=h6.frozen 1
  have y2:w4.drew.frozen? ⟨w.heap.size + 1,2,none⟩=false:=h6.frozen 2
  have y3:w4.drew.frozen? ⟨w.heap.size + 1 + 1,0,none⟩=false:=h7.frozen 0
  have g0':w4.cell? ⟨w.heap.size + 1,0,none⟩=some (.int .u32 uid):=h6.cell 0
  have g1':w4.cell? ⟨w.heap.size + 1,1,none⟩=some (.int .u8 fl):=h6.cell 1
  have g2':w4.cell? ⟨w.heap.size + 1,2,none⟩=some (.slice A n c):=h6.cell 2
  have o0':w4.cell? ⟨w.heap.size + 1 + 1,0,none⟩=some (.bool q):=h7.cell 0
  have y0':w4.frozen? ⟨w.heap.size + 1,0,none⟩=false:=h6.frozen 0
  have y1':w4.frozen? ⟨w.heap.size + 1,1,none⟩=false:=h6.frozen 1
  have y2':w4.frozen? ⟨w.heap.size + 1,2,none⟩=false:=h6.frozen 2
  have y3':w4.frozen? ⟨w.heap.size + 1 + 1,0,none⟩=false:=h7.frozen 0
  go_wp2_with fail
  go_region
 all_goals
  go_wp2
  have hF:Fr (fun k=>k=w.heap.size + 1∨k=w.heap.size + 2) w4 (((((w4.setCell ⟨w.heap.size + 1,0,none⟩ (.int .u32 uid)).setCell ⟨w.heap.size + 1,1,none⟩ (.int .u8 fl)).setCell ⟨w.heap.size + 1,2,none⟩ (.slice A n c)).setCell ⟨w.heap.size + 1 + 1,0,none⟩ (.bool q)).drew) :=
   (((((Fr.refl _ _).setCell (fun _=>.inl rfl) _).setCell (fun _=>.inl rfl) _).setCell (fun _=>.inl rfl) _).setCell (fun _=>.inr rfl) _).drew
  have e6:Blk (((((w4.setCell ⟨w.heap.size + 1,0,none⟩ (.int .u32 uid)).setCell ⟨w.heap.size + 1,1,none⟩ (.int .u8 fl)).setCell ⟨w.heap.size + 1,2,none⟩ (.slice A n c)).setCell ⟨w.heap.size + 1 + 1,0,none⟩ (.bool q)).drew) (w.heap.size + 1) 238 #[.int .u32 uid,.int .u8 fl,.slice A n c] :=
   ((((h6.set_ 0 _).set_ 1 _).set_ 2 _).far (by simp) _).drew
  have e7:Blk (((((w4.setCell ⟨w.heap.size + 1,0,none⟩ (.int .u32 uid)).setCell ⟨w.heap.size + 1,1,none⟩ (.int .u8 fl)).setCell ⟨w.heap.size + 1,2,none⟩ (.slice A n c)).setCell ⟨w.heap.size + 1 + 1,0,none⟩ (.bool q)).drew) (w.heap.size + 1 + 1) 4 #[.bool q] :=
   ((((h7.far (by simp) _).far (by simp) _).far (by simp) _).set_ 0 _).drew
  have hFw:=Fr.trans' hTn.2 hF (fun k hk hs=>by rcases hs with rfl | rfl <;> omega)
  refine bodyPost_ret (results_cells rfl _ _ rfl rfl (loadMsg e6) (loadBool e7)) rfl ?_
  refine ⟨rfl,HFD.out _ hFw,hTn.1.fr hF (fun k hk hft=>?_) (fun v l hv b hb hs=>?_),hFw⟩
  · have h1:=hft.2
    rcases hk with rfl | rfl <;> omega
  · obtain ⟨cs,h1⟩:=hv.heap hb
    rcases hs with rfl | rfl
    · exact h1.ne_ h6 (by decide) rfl
    · exact h1.ne_ h7 (by decide) rfl
end Go.Proofs.YtliimglbbiebiaaGreatDoor
end

