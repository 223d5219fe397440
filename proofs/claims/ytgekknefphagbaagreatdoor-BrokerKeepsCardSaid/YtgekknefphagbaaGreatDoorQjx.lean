/- The broker: Take over the whole state: nobody, what may not be said, a ping, a goodbye. -/
import Derived.Test.YtgekknefphagbaaGreatDoorOpx
import Derived.KernelRfl
namespace Go.Proofs.YtgekknefphagbaaGreatDoor
open Go.RowKit
set_option linter.unusedSimpArgs false
set_option linter.unusedVariables false
set_option linter.unusedSectionVars false
set_option maxHeartbeats 4000000
set_option maxRecDepth 100000
section
theorem pl_heard {cm sm t:Nat} {ts:TS} {l1 l2:List Cn} {ss:List SN} {c:Cn} (now:Int) (h1:∀ d∈l1,d.n≠c.n) (h2:∀ d∈l2,d.n≠c.n):BN.pl ⟨cm,sm,t,ts,l1++{ c with heard:=nearI now }::l2,ss⟩=heardM c.n now (BN.pl ⟨cm,sm,t,ts,l1++c::l2,ss⟩):=by
 unfold heardM BN.pl
 simp only
 rw [pl_set (c':={ c with heard:=nearI now }) rfl h1 h2]
attribute [local irreducible] SN.own ownT ownC ownS shutM leaveM onceS nameB
attribute [local irreducible] DW SeqD DV DOp DC DVX DVJ idsF usI sortS putM rightM onlyM
section
attribute [local push_cast 2000] look_nil upd_nil look_str upd_str drop_str opt_bool opt_int opt_some entM_nil entM_len keyS_89 keyS0_89 zeroD_96 keyS_90 keyS0_90 zeroD_100 keyS_145 keyS0_145 zeroD_4 keyS_172 keyS0_172 zeroD_3 keyS_229 keyS0_229 zeroD_162 look_i64 upd_i64P drop_i64 upd_strP some_mapC none_mapC Option.getD_some Option.getD_none Option.isSome_some Option.isSome_none
end
theorem btakePing_dc (bb:Nat) (m:Int) (s:BN) (n now:Int) (p:Pk) (T1 T2 T3 T4:List V) (F:Own):(BOK s/\BSz s.pl/\(∃ cp,s.pl.conn n=some cp/\cp.s.isSome=true)/\p.kind=12)->DC Tryz.prog 14 [.raw (.pointer (some ⟨bb,0,none⟩)), .int .i64 n, .agg [.int .i64 p.kind, .bool p.dup, .bool p.retain, .int .i64 p.qos, .int .i64 p.id, .str p.topic, .sl (p.payload.map u8), .int .i64 p.level, .str p.client, .bool p.clean, .int .i64 p.keep, .bool p.hasWill, .str p.wtopic, .sl (p.wpay.map u8), .int .i64 p.wqos, .bool p.wretain, .bool p.hasUser, .bool p.hasPass, .str p.user, .sl (p.pass.map u8), .bool p.present, .int .i64 p.code, .sl (p.subs.map encU), .sl (p.codes.map (V.int .i64))], .int .i64 now, .agg [.sl T1, .sl T2, .sl T3, .sl T4]] ((loose::knF::knA::knM m::(ownB bb s++[]))++F) fun d G=>∃ s':BN,(BOK s'/\s'.pl=heardM n now s.pl)/\d = .tup [encEf (⟨outM n [plainP 13 0 false 0],[],[],[]⟩:Ef), .int .i64 0]/\G=loose::knF::knA::knM m::(ownB bb s'++F):=by
 rintro ⟨h,hz,⟨cp,hc,hs⟩,hk⟩
 obtain ⟨cm,sm,t,ts,l1,c,l2,ss,rfl,rfl,hcn,h1,h2⟩:=h.at hc
 obtain ⟨cn,cb,st,left,bad,hd,sv,kp,cl,will,lv,wv⟩:=c
 have hcn1:n=cn:=hcn.symm
 subst hcn1
 cases sv with
 | none=>simp [Cn.pl] at hs
 | some e =>
 obtain ⟨xn,xb⟩:=e
 have hlk:lookA n (kvC l1++(n,cb)::kvC l2)=some cb:=by have:=kvC_at (l2:=l2) h1;rwa [kvC_split] at this
 have hp:BN.pl ⟨cm,sm,t,ts,l1++(⟨n,cb,st,left,bad,nearI now,some (xn,xb),kp,cl,will,lv,wv⟩:Cn)::l2,ss⟩=heardM n now (BN.pl ⟨cm,sm,t,ts,l1++(⟨n,cb,st,left,bad,hd,some (xn,xb),kp,cl,will,lv,wv⟩:Cn)::l2,ss⟩):=pl_heard (c:=(⟨n,cb,st,left,bad,hd,some (xn,xb),kp,cl,will,lv,wv⟩:Cn)) now h1 h2
 refine DC.conv (takePing_dc bb m cm sm t ts l1 l2 ss n now cb st left bad hd kp cl will lv wv xn xb p T1 T2 T3 T4 F ⟨hlk,hk⟩) (by (simp only [ownB,BN.maps,ownC_split,kvC_split,Cn.own,Cn.cells,Cn.sv,Option.map_none,Option.map_some,List.append_assoc,List.cons_append,List.nil_append,List.append_nil]);exact sub_) ?_
 rintro d G ⟨rfl,rfl⟩
 exact ⟨_,_,le.rfl_,⟨(⟨cm,sm,t,ts,l1++(⟨n,cb,st,left,bad,nearI now,some (xn,xb),kp,cl,will,lv,wv⟩:Cn)::l2,ss⟩:BN),⟨h.heard now,hp⟩,rfl,rfl⟩,sub_⟩
theorem bopenT_dc (bb:Nat) (s:BN) (n now:Int) (F:Own):(0<=n/\n<16/\(s.pl.conn n).isSome=true)->DC Tryz.prog 13 [.raw (.pointer (some ⟨bb,0,none⟩)), .int .i64 n, .int .i64 now] ((ownB bb s++[])++F) fun d G=>d = .int .i64 30/\G=(ownB bb s++[])++F:=fun ⟨hn0,hn1,hc⟩=>by
 rw [conn_look] at hc
 obtain ⟨b,hb⟩:=Option.isSome_iff_exists.1 hc
 obtain ⟨cm,sm,t,ts,cs,ss⟩:=s
 refine DC.conv (openT_dc bb cm sm t (kvC cs) n now b (.map sm (entM V.str pv (kvS ss))::(ownC cs++(ownS ss++(ownT t ts++F)))) ⟨hb,hn0,hn1⟩) (by (simp only [ownB,BN.maps,ownC_split,ownS_split,Cn.own,Cn.cells,Cn.sv,Option.map_none,Option.map_some,List.append_assoc,List.cons_append,List.nil_append,List.append_nil]);exact sub_) ?_
 rintro d G ⟨rfl,rfl⟩
 exact ⟨_,_,le.rfl_,⟨rfl,rfl⟩,by (simp only [ownB,BN.maps,ownC_split,ownS_split,Cn.own,Cn.cells,Cn.sv,Option.map_none,Option.map_some,List.append_assoc,List.cons_append,List.nil_append,List.append_nil]);exact sub_⟩
end
end Go.Proofs.YtgekknefphagbaaGreatDoor
