/- Part of the proof; no condition. -/
import Derived.Test.YtjadkocggchfnaaGreatIc
import Derived.WalkKit
import Derived.WalkSpells
import Derived.Handy
import Derived.OpenShut
set_option linter.unusedVariables false
set_option linter.unusedSimpArgs false
namespace Go.Proofs.YtjadkocggchfnaaGreat
open Go.RowKit
set_option maxRecDepth 100000
noncomputable section
abbrev qE:Shs:=⟨[],[],[],([],[])⟩
abbrev qS(s:List (Nat×Sh))(c:List (Nat×List Sh)):Shs:=⟨s,c,[],([],[])⟩
abbrev N1:CT:=.nilr true
abbrev N0:CT:=.nilr false
abbrev CW:CT:=.int .u16
abbrev CB:CT:=.int .u8
abbrev uL(l:List CT):List Sh:=l.map fun c=>.d c ()
abbrev pP(t r:Nat):Nat×Sh:=(t,.ptr ⟨r,0,[]⟩ [0])
abbrev sP(t:Nat)(c:CT):Nat×Sh:=(t,.d c ())
abbrev Lk(n:Nat)(c:Ctr):Prop:=Lvl E0 TT noB n c
theorem aN{m:Nat}:JU E0 TT noB m []:=trivial
theorem aC{n m:Nat}{c:Ctr}{l:List Ctr}(h:Lk n c)(r:JU E0 TT noB m l)(hm:n≤m:=by decide):JU E0 TT noB m (c::l):=⟨h.mono hm,r⟩
abbrev lx(i n:Nat)(s:List (Nat×Sh))(c:List (Nat×List Sh))(b:Nat):Hj:=⟨i,n,⟨s,c,[],([],[])⟩,[(.exit 0,⟨s++[(b,.d .bool ())],c,[],([],[])⟩)]⟩
abbrev LI:Type:=List Int
abbrev LLI:Type:=List (List Int)
abbrev LDCe:Type:=List DCe
abbrev LDCn:Type:=List DCn
abbrev LDIn:Type:=List DIn
abbrev LDOp:Type:=List DOp
abbrev LDLn:Type:=List DLn
abbrev LDTh:Type:=List DTh
abbrev LDOu:Type:=List DOu
abbrev LDTs:Type:=List DTs
abbrev LDEn:Type:=List DEn
abbrev LLCn:Type:=List (List DCn)
abbrev T00:Type:=Bool×LI×Unit
abbrev T01:Type:=Int×Bool×Unit
abbrev T02:Type:=Int×Int×Unit
abbrev T03:Type:=Int×LI×Unit
abbrev T04:Type:=LDCe×LDLn×Unit
abbrev T05:Type:=LDOp×LDCn×Unit
abbrev T06:Type:=LI×Bool×Unit
abbrev T07:Type:=LI×Int×Unit
abbrev T08:Type:=LI×LLI×Unit
abbrev T09:Type:=LLCn×LDOp×Unit
abbrev T0a:Type:=LLCn×LDTs×Unit
abbrev T0b:Type:=Unit×Unit×Unit
abbrev T0c:Type:=Bool×T02
abbrev T0d:Type:=Int×T01
abbrev T0e:Type:=Int×T02
abbrev T0f:Type:=Int×Int×LDLn×Unit
abbrev T0g:Type:=Int×T03
abbrev T0h:Type:=Int×T06
abbrev T0i:Type:=Int×T07
abbrev T0j:Type:=LDCe×T02
abbrev T0k:Type:=LDCn×T02
abbrev T0l:Type:=LDIn×T08
abbrev T0m:Type:=LDTs×T02
abbrev T0n:Type:=LI×T02
abbrev T0o:Type:=LI×T03
abbrev T0p:Type:=LI×LLI×LI×Unit
abbrev T0q:Type:=Bool×Bool×Bool×Bool×Unit
abbrev T0r:Type:=Int×T0c
abbrev T0s:Type:=Int×Bool×T07
abbrev T0t:Type:=Int×Int×T00
abbrev T0u:Type:=Int×T0e
abbrev T0v:Type:=Int×Int×T04
abbrev T0w:Type:=Int×T0h
abbrev T0x:Type:=Int×T0i
abbrev T0y:Type:=Int×Int×T09
abbrev T0z:Type:=Int×T0o
abbrev T0A:Type:=LDCe×T0d
abbrev T0B:Type:=LDCe×LDLn×T04
abbrev T0C:Type:=LDCn×T0d
abbrev T0D:Type:=LDCn×T0k
abbrev T0E:Type:=LDTh×T0g
abbrev T0F:Type:=LDTs×T0d
abbrev T0G:Type:=LI×T0d
abbrev T0H:Type:=LI×T0e
abbrev T0I:Type:=LI×T0i
abbrev T0J:Type:=LI×T0n
abbrev T0K:Type:=Unit×T0i
abbrev T0L:Type:=Unit×Unit×T04
abbrev T0M:Type:=Unit×Unit×T08
abbrev T0N:Type:=Unit×Unit×T09
abbrev T0O:Type:=Unit×Unit×T0a
abbrev T0P:Type:=Unit×Unit×Unit×LDOp×Unit
abbrev T0Q:Type:=Bool×T0u
abbrev T0R:Type:=Bool×T0N
abbrev T0S:Type:=Int×T0s
abbrev T0T:Type:=Int×Int×Bool×T09
abbrev T0U:Type:=Int×T0u
abbrev T0V:Type:=Int×Int×T0l
abbrev T0W:Type:=Int×T0N
abbrev T0X:Type:=LDCe×LDLn×LI×Int×LLCn×Unit
abbrev T0Y:Type:=LDIn×LI×LLI×T02
abbrev T0Z:Type:=LDIn×LI×LLI×T0a
abbrev T10:Type:=LI×T0x
abbrev T11:Type:=LI×Int×LDCe×LDLn×LDTh×Unit
abbrev T12:Type:=LLCn×T0y
abbrev T13:Type:=Unit×Int×Unit×T0b
abbrev T14:Type:=Unit×Unit×T0p
abbrev T15:Type:=Unit×Unit×LLCn×T05
abbrev T16:Type:=Bool×T0Z
abbrev T17:Type:=Bool×T11
abbrev T18:Type:=Bool×T13
abbrev T19:Type:=Int×Bool×T0M
abbrev T1a:Type:=Int×Int×Bool×T0l
abbrev T1b:Type:=Int×T0U
abbrev T1c:Type:=Int×Int×T0x
abbrev T1d:Type:=Int×Int×T0M
abbrev T1e:Type:=Int×T0W
abbrev T1f:Type:=Int×T11
abbrev T1g:Type:=LDCe×LDLn×LI×Int×LLCn×LDCn×Unit
abbrev T1h:Type:=LDCe×LDLn×T0L
abbrev T1i:Type:=LDIn×T0V
abbrev T1j:Type:=LDIn×LI×LLI×T0d
abbrev T1k:Type:=LI×T0S
abbrev T1l:Type:=LI×Int×LDCe×LDLn×LDTh×Bool×Unit
abbrev T1m:Type:=LI×T10
abbrev T1n:Type:=LI×LI×LLI×LLCn×LDOp×LDOu×Unit
abbrev T1o:Type:=LI×LLI×T0M
abbrev T1p:Type:=LLCn×LDOp×T0N
abbrev T1q:Type:=LLCn×LDTs×T0O
abbrev T1r:Type:=LLCn×LDTs×Unit×Unit×LLCn×Unit×Unit
abbrev T1s:Type:=LLI×T0V
abbrev T1t:Type:=Unit×Unit×LLCn×Nat×T05
abbrev T1u:Type:=Int×Int×Bool×T0B
abbrev T1v:Type:=Int×T19
abbrev T1w:Type:=Int×Int×T0R
abbrev T1x:Type:=Int×T1b
abbrev T1y:Type:=Int×Int×Int×Int×Unit×T01
abbrev T1z:Type:=Int×T1d
abbrev T1A:Type:=Int×Int×LI×Int×Int×LLI×LDCn×Unit
abbrev T1B:Type:=Int×T1f
abbrev T1C:Type:=Int×Int×T14
abbrev T1D:Type:=Int×T1i
abbrev T1E:Type:=Int×LI×Int×T0r
abbrev T1F:Type:=LDIn×T1a
abbrev T1G:Type:=LLI×T1a
abbrev T1H:Type:=LLI×T1e
abbrev T1I:Type:=LLI×Int×Int×T0P
abbrev T1J:Type:=Int×Int×Bool×T14
abbrev T1K:Type:=Int×T1w
abbrev T1L:Type:=Int×Int×Int×Int×Int×Int×LDCn×LDCn×Unit
abbrev T1M:Type:=Int×Int×Int×Int×Int×Int×T0b
abbrev T1N:Type:=Int×T1C
abbrev T1O:Type:=Int×Int×T1n
abbrev T1P:Type:=Int×Int×T1o
abbrev T1Q:Type:=Int×Int×T1p
abbrev T1R:Type:=Int×LDCe×T1b
abbrev T1S:Type:=Int×T1F
abbrev T1T:Type:=LDTh×T1B
abbrev T1U:Type:=LI×Int×Unit×Unit×Unit×T0l
abbrev T1V:Type:=LI×Int×Unit×Unit×T0M
abbrev T1W:Type:=LLCn×Int×Int×T0Z
abbrev T1X:Type:=Int×Int×Bool×T1n
abbrev T1Y:Type:=Int×Int×Bool×T1o
abbrev T1Z:Type:=Int×Int×Bool×T1p
abbrev T20:Type:=Int×Int×T1x
abbrev T21:Type:=Int×Int×Int×Int×Int×Int×LDCn×LDCn×Int×Unit
abbrev T22:Type:=Int×Int×Int×T1e
abbrev T23:Type:=Int×T1Q
abbrev T24:Type:=Int×LI×Int×Int×Bool×T0H
abbrev T25:Type:=Int×T1U
abbrev T26:Type:=LDIn×LI×LLI×LI×Int×T0L
abbrev T27:Type:=LDLn×Int×Int×T1h
abbrev T28:Type:=LDOu×T1O
abbrev T29:Type:=LI×Int×Int×T1k
abbrev T2a:Type:=LI×Int×LI×Int×Int×T0H
abbrev T2b:Type:=LI×LI×Int×Int×T0X
abbrev T2c:Type:=LI×LLCn×Int×Int×LDCn×T0y
abbrev T2d:Type:=LLCn×Int×Int×T16
abbrev T2e:Type:=LLCn×T1Q
abbrev T2f:Type:=LLI×T1O
abbrev T2g:Type:=LLI×T1P
abbrev T2h:Type:=Int×Bool×T1U
abbrev T2i:Type:=Int×Int×Int×Int×Int×Bool×Bool×Bool×T00
abbrev T2j:Type:=Int×Int×Int×Int×Int×Int×Int×Int×Int×LDCn×Unit
abbrev T2k:Type:=Int×Int×T1L
abbrev T2l:Type:=Int×T25
abbrev T2m:Type:=Int×Int×T1V
abbrev T2n:Type:=LI×Int×Int×Int×Int×Int×T0K
abbrev T2o:Type:=LI×Int×Int×LI×T1c
abbrev T2p:Type:=LI×Int×LDCe×LDLn×LDTh×T11
abbrev T2q:Type:=LLI×T1Y
abbrev T2r:Type:=Unit×Int×Unit×Unit×Unit×T11
abbrev T2s:Type:=Unit×Int×Unit×Unit×Unit×LI×Int×LDCe×LDLn×Unit×Unit
abbrev T2t:Type:=Bool×T2p
abbrev T2u:Type:=Int×Int×T26
abbrev T2v:Type:=Int×Int×T2g
abbrev T2w:Type:=Int×T2r
abbrev T2x:Type:=LDCe×Int×Int×T1R
abbrev T2y:Type:=LDCn×Nat×Int×Int×Int×T1t
abbrev T2z:Type:=LI×Int×Bool×LI×T1x
abbrev T2A:Type:=LI×Int×Int×LI×Int×Int×T0S
abbrev T2B:Type:=LI×Int×Int×LI×Int×Int×T10
abbrev T2C:Type:=LLI×Int×Int×LI×Int×Int×T15
abbrev T2D:Type:=ByteArray×LDCn×T2k
abbrev T2E:Type:=Int×Bool×T2r
abbrev T2F:Type:=Int×Int×Bool×T26
abbrev T2G:Type:=Int×Int×T2i
abbrev T2H:Type:=Int×Int×Int×Int×LDCn×Int×T18
abbrev T2I:Type:=Int×Int×Int×Int×Nat×T1C
abbrev T2J:Type:=Int×Int×Int×LDTs×Int×Int×T1q
abbrev T2K:Type:=Int×Int×Int×LLCn×Int×Int×T1r
abbrev T2L:Type:=Int×Int×T2p
abbrev T2M:Type:=Int×Int×T2s
abbrev T2N:Type:=LDIn×LI×LLI×LI×Int×LDCe×LDLn×LDTh×T0O
abbrev T2O:Type:=LI×Int×Int×T29
abbrev T2P:Type:=LLI×T2u
abbrev T2Q:Type:=Int×Int×Bool×T2i
abbrev T2R:Type:=Int×Int×Bool×T2s
abbrev T2S:Type:=LDIn×LI×LLI×LI×Int×LLCn×LDTs×Unit×Int×Unit×Unit×Unit×LLCn×Unit
abbrev T2T:Type:=LI×Int×LDCe×LDLn×LDTh×T1R
abbrev T2U:Type:=LI×Int×LI×Int×Int×Int×Int×T1g
abbrev T2V:Type:=Int×Int×LLI×Int×Int×LI×T1P
abbrev T2W:Type:=LDIn×LI×LLI×LI×Int×LDCe×LDLn×LDTh×LI×Int×LI×Int×(List (LLCn×LDTs))×Unit
abbrev T2X:Type:=Int×Int×T2S
abbrev T2Y:Type:=Int×Int×LDIn×LI×LLI×T2r
abbrev T2Z:Type:=LDTh×Int×Int×T2N
abbrev T30:Type:=LI×Int×LDCe×LDLn×LDTh×T2r
abbrev T31:Type:=Int×Int×Bool×T2S
abbrev T32:Type:=Int×Int×T2W
abbrev T33:Type:=Int×LLI×Int×Int×LI×T2u
abbrev T34:Type:=LDIn×LI×LLI×T2T
abbrev T35:Type:=Nat×LI×Int×LDCe×LDLn×LDTh×Int×Int×Int×Int×Int×Int×T0D
abbrev T36:Type:=LDIn×LI×LLI×LI×Int×LLCn×LDTs×T2r
abbrev T37:Type:=LDIn×LI×LLI×LI×Int×LLCn×LDTs×T2s
abbrev T38:Type:=Int×Int×LDCn×T2X
abbrev T39:Type:=Int×Int×LI×Int×Int×Int×Int×Int×Int×Int×Int×Int×Int×Int×T0q
abbrev T3a:Type:=LDIn×LI×LLI×LI×Int×LDCe×LDLn×LDTh×LI×Int×LI×Int×LLCn×LDTs×(List (LLCn×LDTs))×(List (LI×Int))×Unit
abbrev T3b:Type:=LDIn×LI×LLI×LI×Int×LDCe×LDLn×LDTh×LI×LI×LLI×LLCn×LDOp×LDOu×LI×LLI×LDEn×LI×Unit
abbrev T3c:Type:=LDIn×LI×LLI×LI×Int×LDTs×Int×T2w
abbrev T3d:Type:=LDTh×Int×Int×T30
abbrev T3e:Type:=Int×Int×Int×Int×Int×Int×LDCn×LDCn×Int×Int×Int×Int×LDCn×Int×T0Q
abbrev T3f:Type:=Int×Int×T37
abbrev T3g:Type:=LDIn×LI×LLI×LI×Int×LDCe×LDLn×LDTh×LI×LI×LLI×LLCn×LDOp×LDOu×LI×LLI×LDEn×LI×LI×Unit
abbrev T3h:Type:=Nat×Int×LI×Int×LDCe×LDLn×LDTh×LDIn×LI×LLI×T20
abbrev T3i:Type:=Int×Bool×T3b
abbrev T3j:Type:=Int×ByteArray×Int×Int×T34
abbrev T3k:Type:=Int×Int×Bool×T37
abbrev T3l:Type:=LDIn×LI×LLI×LI×Int×LLCn×LDTs×LLCn×T2M
abbrev T3m:Type:=LDTs×Int×Int×T36
abbrev T3n:Type:=LLCn×T3f
abbrev T3o:Type:=Int×Int×Int×T3b
abbrev T3p:Type:=Int×Int×Int×Int×T3a
abbrev T3q:Type:=Int×Int×Int×T3g
abbrev T3r:Type:=Int×LLCn×Int×Int×LDCn×T3f
abbrev T3s:Type:=LDIn×LI×LLI×LI×Int×LLCn×LDTs×Int×LLCn×Int×Int×LDCn×T2M
abbrev T3t:Type:=LDIn×LI×LLI×LI×Int×LDCe×LDLn×LDTh×LI×LI×LLI×LLCn×LDOp×LDOu×LI×LLI×LDEn×LI×T1y
abbrev T3u:Type:=LI×Int×LDCe×LDLn×LDTh×LDIn×LI×LLI×Int×Int×Int×Int×Int×Int×LDCn×LDCn×Int×Int×Int×Int×LDCn×T0r
abbrev T3v:Type:=Nat×Bool×LI×Int×LDCe×LDLn×LDTh×T3e
abbrev T3w:Type:=Nat×T3u
abbrev T3x:Type:=Unit×Int×Unit×Unit×Unit×LI×Int×LDCe×LDLn×LDTh×Int×Int×Int×Int×Int×Int×Int×LDCn×T1R
abbrev T3y:Type:=Unit×Unit×Unit×Unit×Unit×Unit×Int×Int×Int×Int×Unit×Int×Bool×LI×LI×LLI×LLCn×LDOp×LDOu×Int×Int×Int×Int×LDCn×T01
abbrev T3z:Type:=Unit×Unit×Unit×Unit×Unit×Unit×Int×Int×Int×Int×Unit×Int×Bool×LI×LI×LLI×LLCn×LDOp×LDOu×T1y
abbrev T3A:Type:=LI×Int×LDCe×LDLn×LDTh×LDIn×LI×LLI×T3e
abbrev T3B:Type:=LDIn×LI×LLI×LI×Int×LDCe×LDLn×LDTh×Unit×Unit×LLCn×LDTs×Int×LDCe×Int×Int×Int×Int×T2j
abbrev T3C:Type:=LDTh×Int×Int×T3t
abbrev T3D:Type:=Nat×LDCn×Int×Int×T3A
abbrev T3E:Type:=Nat×LDCn×Int×Int×Bool×T3A
abbrev T3F:Type:=LDIn×LI×LLI×LI×Int×LLCn×LDTs×T3x
abbrev T3G:Type:=LI×Int×Unit×Unit×Unit×Unit×Int×Unit×Unit×Unit×LDIn×LI×LLI×LI×Int×LDCe×LDLn×LDTh×LI×LI×LLI×LLCn×LDOp×LDOu×LI×LLI×LDEn×LI×T11
abbrev T3H:Type:=LDTh×Int×Int×LDCe×Int×Int×T3B
abbrev T3I:Type:=LI×LI×LLI×LLCn×LDOp×LDOu×Int×Int×Int×Int×Int×Int×LDCn×LDCn×Unit×Unit×Unit×Unit×Unit×Unit×Int×Int×Int×Int×Unit×Int×Bool×LI×LI×LLI×LLCn×LDOp×LDOu×LI×Unit
abbrev T3J:Type:=Int×Bool×LDIn×LI×LLI×LI×Int×LDCe×LDLn×LDTh×LI×LI×LLI×LLCn×LDOp×LDOu×LI×LLI×LDEn×LI×Int×Int×Int×Int×Int×Int×LDCn×LDCn×T1y
abbrev T3K:Type:=LI×Int×Unit×Unit×Unit×Unit×Int×Unit×Unit×Unit×LDIn×LI×LLI×LI×Int×LDCe×LDLn×LDTh×LI×LI×LLI×LLCn×LDOp×LDOu×LI×LLI×LDEn×LI×LI×Int×LDCe×LDLn×LDTh×T0a
abbrev T3L:Type:=Unit×Unit×Unit×Unit×Int×Unit×Unit×Unit×Unit×Unit×Unit×Unit×Unit×Unit×Unit×Unit×Unit×Unit×T3b
abbrev T3M:Type:=Unit×Unit×Unit×Unit×Int×Unit×Unit×Unit×Unit×Unit×Unit×Unit×Unit×Unit×Unit×Unit×Unit×Unit×LDIn×LI×LLI×LI×Int×LDCe×LDLn×LDTh×LI×LI×LLI×LLCn×LDOp×LDOu×LI×LLI×Unit×LI×Unit
abbrev T3N:Type:=Int×Int×T3K
abbrev T3O:Type:=Int×T3L
abbrev T3P:Type:=Int×T3M
abbrev T3Q:Type:=LDCn×Int×Int×T3I
abbrev T3R:Type:=LDIn×LI×LLI×LI×Int×LDTs×Int×Int×LDCn×Int×Int×T3x
abbrev T3S:Type:=LDIn×LI×LLI×Unit×Int×Unit×Unit×Unit×Int×Int×Int×Int×Int×Int×Unit×Unit×LI×Int×LDCe×LDLn×LDTh×Int×LDCe×Int×Int×Int×Int×T2k
abbrev T3T:Type:=LDIn×LI×LLI×Unit×Int×Unit×Unit×Unit×Int×Int×Int×Int×Int×Int×Unit×Unit×LI×Int×LDCe×LDLn×LDTh×Int×LDCe×Int×Int×Int×Int×Int×Int×Int×Int×Int×Int×Int×Int×LDCn×Unit×Unit
abbrev T3U:Type:=Bool×T3T
abbrev T3V:Type:=Int×Int×Bool×T3K
abbrev T3W:Type:=Int×T3O
abbrev T3X:Type:=LI×T3O
abbrev T3Y:Type:=Int×Int×T3S
abbrev T3Z:Type:=Int×Int×T3T
abbrev T40:Type:=Int×T3X
abbrev T41:Type:=LDTs×Int×Int×LDCn×Int×Int×T3F
abbrev T42:Type:=Int×Int×Bool×T3S
abbrev T43:Type:=Int×Int×Int×T3N
noncomputable abbrev ap1{A0 D R:Type}(f:A0→R)(h:A0×D):R:=f h.1
noncomputable abbrev ap2{A0 A1 D R:Type}(f:A0→A1→R)(h:A0×A1×D):R:=f h.1 h.2.1
noncomputable abbrev ap3{A0 A1 A2 D R:Type}(f:A0→A1→A2→R)(h:A0×A1×A2×D):R:=f h.1 h.2.1 h.2.2.1
noncomputable abbrev ap4{A0 A1 A2 A3 D R:Type}(f:A0→A1→A2→A3→R)(h:A0×A1×A2×A3×D):R:=f h.1 h.2.1 h.2.2.1 h.2.2.2.1
noncomputable abbrev ap5{A0 A1 A2 A3 A4 D R:Type}(f:A0→A1→A2→A3→A4→R)(h:A0×A1×A2×A3×A4×D):R:=f h.1 h.2.1 h.2.2.1 h.2.2.2.1 h.2.2.2.2.1
noncomputable abbrev ap6{A0 A1 A2 A3 A4 A5 D R:Type}(f:A0→A1→A2→A3→A4→A5→R)(h:A0×A1×A2×A3×A4×A5×D):R:=f h.1 h.2.1 h.2.2.1 h.2.2.2.1 h.2.2.2.2.1 h.2.2.2.2.2.1
noncomputable abbrev ap7{A0 A1 A2 A3 A4 A5 A6 D R:Type}(f:A0→A1→A2→A3→A4→A5→A6→R)(h:A0×A1×A2×A3×A4×A5×A6×D):R:=f h.1 h.2.1 h.2.2.1 h.2.2.2.1 h.2.2.2.2.1 h.2.2.2.2.2.1 h.2.2.2.2.2.2.1
noncomputable abbrev ap8{A0 A1 A2 A3 A4 A5 A6 A7 D R:Type}(f:A0→A1→A2→A3→A4→A5→A6→A7→R)(h:A0×A1×A2×A3×A4×A5×A6×A7×D):R:=f h.1 h.2.1 h.2.2.1 h.2.2.2.1 h.2.2.2.2.1 h.2.2.2.2.2.1 h.2.2.2.2.2.2.1 h.2.2.2.2.2.2.2.1
noncomputable abbrev ap9{A0 A1 A2 A3 A4 A5 A6 A7 A8 D R:Type}(f:A0→A1→A2→A3→A4→A5→A6→A7→A8→R)(h:A0×A1×A2×A3×A4×A5×A6×A7×A8×D):R:=f h.1 h.2.1 h.2.2.1 h.2.2.2.1 h.2.2.2.2.1 h.2.2.2.2.2.1 h.2.2.2.2.2.2.1 h.2.2.2.2.2.2.2.1 h.2.2.2.2.2.2.2.2.1
noncomputable abbrev ap10{A0 A1 A2 A3 A4 A5 A6 A7 A8 A9 D R:Type}(f:A0→A1→A2→A3→A4→A5→A6→A7→A8→A9→R)(h:A0×A1×A2×A3×A4×A5×A6×A7×A8×A9×D):R:=f h.1 h.2.1 h.2.2.1 h.2.2.2.1 h.2.2.2.2.1 h.2.2.2.2.2.1 h.2.2.2.2.2.2.1 h.2.2.2.2.2.2.2.1 h.2.2.2.2.2.2.2.2.1 h.2.2.2.2.2.2.2.2.2.1
noncomputable abbrev ap11{A0 A1 A2 A3 A4 A5 A6 A7 A8 A9 A10 D R:Type}(f:A0→A1→A2→A3→A4→A5→A6→A7→A8→A9→A10→R)(h:A0×A1×A2×A3×A4×A5×A6×A7×A8×A9×A10×D):R:=f h.1 h.2.1 h.2.2.1 h.2.2.2.1 h.2.2.2.2.1 h.2.2.2.2.2.1 h.2.2.2.2.2.2.1 h.2.2.2.2.2.2.2.1 h.2.2.2.2.2.2.2.2.1 h.2.2.2.2.2.2.2.2.2.1 h.2.2.2.2.2.2.2.2.2.2.1
noncomputable abbrev ap14{A0 A1 A2 A3 A4 A5 A6 A7 A8 A9 A10 A11 A12 A13 D R:Type}(f:A0→A1→A2→A3→A4→A5→A6→A7→A8→A9→A10→A11→A12→A13→R)(h:A0×A1×A2×A3×A4×A5×A6×A7×A8×A9×A10×A11×A12×A13×D):R:=f h.1 h.2.1 h.2.2.1 h.2.2.2.1 h.2.2.2.2.1 h.2.2.2.2.2.1 h.2.2.2.2.2.2.1 h.2.2.2.2.2.2.2.1 h.2.2.2.2.2.2.2.2.1 h.2.2.2.2.2.2.2.2.2.1 h.2.2.2.2.2.2.2.2.2.2.1 h.2.2.2.2.2.2.2.2.2.2.2.1 h.2.2.2.2.2.2.2.2.2.2.2.2.1 h.2.2.2.2.2.2.2.2.2.2.2.2.2.1
noncomputable abbrev ap16{A0 A1 A2 A3 A4 A5 A6 A7 A8 A9 A10 A11 A12 A13 A14 A15 D R:Type}(f:A0→A1→A2→A3→A4→A5→A6→A7→A8→A9→A10→A11→A12→A13→A14→A15→R)(h:A0×A1×A2×A3×A4×A5×A6×A7×A8×A9×A10×A11×A12×A13×A14×A15×D):R:=f h.1 h.2.1 h.2.2.1 h.2.2.2.1 h.2.2.2.2.1 h.2.2.2.2.2.1 h.2.2.2.2.2.2.1 h.2.2.2.2.2.2.2.1 h.2.2.2.2.2.2.2.2.1 h.2.2.2.2.2.2.2.2.2.1 h.2.2.2.2.2.2.2.2.2.2.1 h.2.2.2.2.2.2.2.2.2.2.2.1 h.2.2.2.2.2.2.2.2.2.2.2.2.1 h.2.2.2.2.2.2.2.2.2.2.2.2.2.1 h.2.2.2.2.2.2.2.2.2.2.2.2.2.2.1 h.2.2.2.2.2.2.2.2.2.2.2.2.2.2.2.1
noncomputable abbrev ap18{A0 A1 A2 A3 A4 A5 A6 A7 A8 A9 A10 A11 A12 A13 A14 A15 A16 A17 D R:Type}(f:A0→A1→A2→A3→A4→A5→A6→A7→A8→A9→A10→A11→A12→A13→A14→A15→A16→A17→R)(h:A0×A1×A2×A3×A4×A5×A6×A7×A8×A9×A10×A11×A12×A13×A14×A15×A16×A17×D):R:=f h.1 h.2.1 h.2.2.1 h.2.2.2.1 h.2.2.2.2.1 h.2.2.2.2.2.1 h.2.2.2.2.2.2.1 h.2.2.2.2.2.2.2.1 h.2.2.2.2.2.2.2.2.1 h.2.2.2.2.2.2.2.2.2.1 h.2.2.2.2.2.2.2.2.2.2.1 h.2.2.2.2.2.2.2.2.2.2.2.1 h.2.2.2.2.2.2.2.2.2.2.2.2.1 h.2.2.2.2.2.2.2.2.2.2.2.2.2.1 h.2.2.2.2.2.2.2.2.2.2.2.2.2.2.1 h.2.2.2.2.2.2.2.2.2.2.2.2.2.2.2.1 h.2.2.2.2.2.2.2.2.2.2.2.2.2.2.2.2.1 h.2.2.2.2.2.2.2.2.2.2.2.2.2.2.2.2.2.1
noncomputable abbrev ap19{A0 A1 A2 A3 A4 A5 A6 A7 A8 A9 A10 A11 A12 A13 A14 A15 A16 A17 A18 D R:Type}(f:A0→A1→A2→A3→A4→A5→A6→A7→A8→A9→A10→A11→A12→A13→A14→A15→A16→A17→A18→R)(h:A0×A1×A2×A3×A4×A5×A6×A7×A8×A9×A10×A11×A12×A13×A14×A15×A16×A17×A18×D):R:=f h.1 h.2.1 h.2.2.1 h.2.2.2.1 h.2.2.2.2.1 h.2.2.2.2.2.1 h.2.2.2.2.2.2.1 h.2.2.2.2.2.2.2.1 h.2.2.2.2.2.2.2.2.1 h.2.2.2.2.2.2.2.2.2.1 h.2.2.2.2.2.2.2.2.2.2.1 h.2.2.2.2.2.2.2.2.2.2.2.1 h.2.2.2.2.2.2.2.2.2.2.2.2.1 h.2.2.2.2.2.2.2.2.2.2.2.2.2.1 h.2.2.2.2.2.2.2.2.2.2.2.2.2.2.1 h.2.2.2.2.2.2.2.2.2.2.2.2.2.2.2.1 h.2.2.2.2.2.2.2.2.2.2.2.2.2.2.2.2.1 h.2.2.2.2.2.2.2.2.2.2.2.2.2.2.2.2.2.1 h.2.2.2.2.2.2.2.2.2.2.2.2.2.2.2.2.2.2.1
noncomputable abbrev ap20{A0 A1 A2 A3 A4 A5 A6 A7 A8 A9 A10 A11 A12 A13 A14 A15 A16 A17 A18 A19 D R:Type}(f:A0→A1→A2→A3→A4→A5→A6→A7→A8→A9→A10→A11→A12→A13→A14→A15→A16→A17→A18→A19→R)(h:A0×A1×A2×A3×A4×A5×A6×A7×A8×A9×A10×A11×A12×A13×A14×A15×A16×A17×A18×A19×D):R:=f h.1 h.2.1 h.2.2.1 h.2.2.2.1 h.2.2.2.2.1 h.2.2.2.2.2.1 h.2.2.2.2.2.2.1 h.2.2.2.2.2.2.2.1 h.2.2.2.2.2.2.2.2.1 h.2.2.2.2.2.2.2.2.2.1 h.2.2.2.2.2.2.2.2.2.2.1 h.2.2.2.2.2.2.2.2.2.2.2.1 h.2.2.2.2.2.2.2.2.2.2.2.2.1 h.2.2.2.2.2.2.2.2.2.2.2.2.2.1 h.2.2.2.2.2.2.2.2.2.2.2.2.2.2.1 h.2.2.2.2.2.2.2.2.2.2.2.2.2.2.2.1 h.2.2.2.2.2.2.2.2.2.2.2.2.2.2.2.2.1 h.2.2.2.2.2.2.2.2.2.2.2.2.2.2.2.2.2.1 h.2.2.2.2.2.2.2.2.2.2.2.2.2.2.2.2.2.2.1 h.2.2.2.2.2.2.2.2.2.2.2.2.2.2.2.2.2.2.2.1
noncomputable abbrev ap21{A0 A1 A2 A3 A4 A5 A6 A7 A8 A9 A10 A11 A12 A13 A14 A15 A16 A17 A18 A19 A20 D R:Type}(f:A0→A1→A2→A3→A4→A5→A6→A7→A8→A9→A10→A11→A12→A13→A14→A15→A16→A17→A18→A19→A20→R)(h:A0×A1×A2×A3×A4×A5×A6×A7×A8×A9×A10×A11×A12×A13×A14×A15×A16×A17×A18×A19×A20×D):R:=f h.1 h.2.1 h.2.2.1 h.2.2.2.1 h.2.2.2.2.1 h.2.2.2.2.2.1 h.2.2.2.2.2.2.1 h.2.2.2.2.2.2.2.1 h.2.2.2.2.2.2.2.2.1 h.2.2.2.2.2.2.2.2.2.1 h.2.2.2.2.2.2.2.2.2.2.1 h.2.2.2.2.2.2.2.2.2.2.2.1 h.2.2.2.2.2.2.2.2.2.2.2.2.1 h.2.2.2.2.2.2.2.2.2.2.2.2.2.1 h.2.2.2.2.2.2.2.2.2.2.2.2.2.2.1 h.2.2.2.2.2.2.2.2.2.2.2.2.2.2.2.1 h.2.2.2.2.2.2.2.2.2.2.2.2.2.2.2.2.1 h.2.2.2.2.2.2.2.2.2.2.2.2.2.2.2.2.2.1 h.2.2.2.2.2.2.2.2.2.2.2.2.2.2.2.2.2.2.1 h.2.2.2.2.2.2.2.2.2.2.2.2.2.2.2.2.2.2.2.1 h.2.2.2.2.2.2.2.2.2.2.2.2.2.2.2.2.2.2.2.2.1
noncomputable abbrev ap23{A0 A1 A2 A3 A4 A5 A6 A7 A8 A9 A10 A11 A12 A13 A14 A15 A16 A17 A18 A19 A20 A21 A22 D R:Type}(f:A0→A1→A2→A3→A4→A5→A6→A7→A8→A9→A10→A11→A12→A13→A14→A15→A16→A17→A18→A19→A20→A21→A22→R)(h:A0×A1×A2×A3×A4×A5×A6×A7×A8×A9×A10×A11×A12×A13×A14×A15×A16×A17×A18×A19×A20×A21×A22×D):R:=f h.1 h.2.1 h.2.2.1 h.2.2.2.1 h.2.2.2.2.1 h.2.2.2.2.2.1 h.2.2.2.2.2.2.1 h.2.2.2.2.2.2.2.1 h.2.2.2.2.2.2.2.2.1 h.2.2.2.2.2.2.2.2.2.1 h.2.2.2.2.2.2.2.2.2.2.1 h.2.2.2.2.2.2.2.2.2.2.2.1 h.2.2.2.2.2.2.2.2.2.2.2.2.1 h.2.2.2.2.2.2.2.2.2.2.2.2.2.1 h.2.2.2.2.2.2.2.2.2.2.2.2.2.2.1 h.2.2.2.2.2.2.2.2.2.2.2.2.2.2.2.1 h.2.2.2.2.2.2.2.2.2.2.2.2.2.2.2.2.1 h.2.2.2.2.2.2.2.2.2.2.2.2.2.2.2.2.2.1 h.2.2.2.2.2.2.2.2.2.2.2.2.2.2.2.2.2.2.1 h.2.2.2.2.2.2.2.2.2.2.2.2.2.2.2.2.2.2.2.1 h.2.2.2.2.2.2.2.2.2.2.2.2.2.2.2.2.2.2.2.2.1 h.2.2.2.2.2.2.2.2.2.2.2.2.2.2.2.2.2.2.2.2.2.1 h.2.2.2.2.2.2.2.2.2.2.2.2.2.2.2.2.2.2.2.2.2.2.1
noncomputable abbrev ap26{A0 A1 A2 A3 A4 A5 A6 A7 A8 A9 A10 A11 A12 A13 A14 A15 A16 A17 A18 A19 A20 A21 A22 A23 A24 A25 D R:Type}(f:A0→A1→A2→A3→A4→A5→A6→A7→A8→A9→A10→A11→A12→A13→A14→A15→A16→A17→A18→A19→A20→A21→A22→A23→A24→A25→R)(h:A0×A1×A2×A3×A4×A5×A6×A7×A8×A9×A10×A11×A12×A13×A14×A15×A16×A17×A18×A19×A20×A21×A22×A23×A24×A25×D):R:=f h.1 h.2.1 h.2.2.1 h.2.2.2.1 h.2.2.2.2.1 h.2.2.2.2.2.1 h.2.2.2.2.2.2.1 h.2.2.2.2.2.2.2.1 h.2.2.2.2.2.2.2.2.1 h.2.2.2.2.2.2.2.2.2.1 h.2.2.2.2.2.2.2.2.2.2.1 h.2.2.2.2.2.2.2.2.2.2.2.1 h.2.2.2.2.2.2.2.2.2.2.2.2.1 h.2.2.2.2.2.2.2.2.2.2.2.2.2.1 h.2.2.2.2.2.2.2.2.2.2.2.2.2.2.1 h.2.2.2.2.2.2.2.2.2.2.2.2.2.2.2.1 h.2.2.2.2.2.2.2.2.2.2.2.2.2.2.2.2.1 h.2.2.2.2.2.2.2.2.2.2.2.2.2.2.2.2.2.1 h.2.2.2.2.2.2.2.2.2.2.2.2.2.2.2.2.2.2.1 h.2.2.2.2.2.2.2.2.2.2.2.2.2.2.2.2.2.2.2.1 h.2.2.2.2.2.2.2.2.2.2.2.2.2.2.2.2.2.2.2.2.1 h.2.2.2.2.2.2.2.2.2.2.2.2.2.2.2.2.2.2.2.2.2.1 h.2.2.2.2.2.2.2.2.2.2.2.2.2.2.2.2.2.2.2.2.2.2.1 h.2.2.2.2.2.2.2.2.2.2.2.2.2.2.2.2.2.2.2.2.2.2.2.1 h.2.2.2.2.2.2.2.2.2.2.2.2.2.2.2.2.2.2.2.2.2.2.2.2.1 h.2.2.2.2.2.2.2.2.2.2.2.2.2.2.2.2.2.2.2.2.2.2.2.2.2.1
theorem ls{n:Nat}(C:X.Cfg)(hT:JU E0 TT noB n C.TB){c:Ctr}(hE:C.E=E0:=by rfl)(h1:(TT c.f).isSome=true:=by kernel_rfl)(hg:∀h,X.runT dS C () ((TT c.f).getD Td) c.outs (ke c.ins _ h).1 (vR c.pts [] (ke c.ins _ h).2).1=c.g h:=by intro h;kernel_rfl):Lk (n+1) c:=SA (n:=n) (C:=C) hE hT (SJ h1) hg
abbrev Uaa(t:Nat):Nat×Sh:=sP t I64
abbrev Xaa(t:Nat):Nat×Sh:=sP t .bool
abbrev Zaa(t r:Nat):Nat×Sh:=(t,.pk ⟨r,0,[]⟩ [0,0])
abbrev uaa(t:CT):CT:=.row true t
abbrev yaa(t:CT):CT:=.row false t
abbrev zaa(t:Nat):Nat×Sh:=pP t (2*t+2)
abbrev uab:List Sh:=uL [ff,RI,(yaa RW)]
abbrev yab:List Sh:=uL [RI,CW]
abbrev zab:List Sh:=uL [.bool]
abbrev Uab:List Sh:=uL [RI,I64]
abbrev Xab:List Sh:=uL [N1,N1]
abbrev Zab:List Sh:=uL [N1,CW,N1,N1,N1]
abbrev uac:List Sh:=uL [CB,CW]
abbrev yac:List Sh:=uL [RI,CW,fq,fV,gD]
abbrev zac:List Sh:=uL [(yaa ej),(yaa jP)]
abbrev Uac:List Sh:=uL [I64]
abbrev Xac:List Sh:=uL [RI,CW,(uaa KCe),jG,p9]
abbrev Zac:List Sh:=uL [I64,I64,I64,I64,I64,I64,ej,ej]
abbrev uad:List Sh:=uL [I64,I64]
abbrev yad:List Sh:=uL [ff,RI,(yaa RW),RI,CW,fq,fV,gD,RW,RW,(yaa RW),(yaa ej),iK,j5,RI,(yaa RI),(uaa u7),(uaa I64)]
abbrev zad:List Sh:=uL [(yaa ej),iK]
abbrev Uad:List Sh:=uL [I64,I64,I64,I64,I64]
abbrev Xad:List Sh:=uL [fq,fV]
abbrev Zad:List Sh:=uL [I64,fq,I64,I64,I64,I64,I64,CW]
abbrev uae:List Sh:=uL [N1,N1,N1]
abbrev yae:List Sh:=uL [(uaa I64)]
abbrev zae:List Sh:=uL [CB,CW,I64,I64,N1,I64,.bool]
abbrev Uae:List Sh:=uL [(uaa I64),(uaa (uaa I64))]
abbrev Xae:List Sh:=uL [(uaa (uaa KCn)),(uaa KOp)]
abbrev Zae:List Sh:=uL [(uaa (uaa KCn)),(uaa Cd)]
abbrev uaf:List Sh:=uL [ff,RI,(yaa RW),RI,CW,fq,fV,gD,RW,RW,(yaa RW),(yaa ej),iK,j5,RI,(yaa RI),JR,RI]
abbrev yaf:List Sh:=uL [RI,(yaa RI)]
abbrev zaf:List Sh:=uL [CB,CW,I64,I64]
abbrev Uaf:List Sh:=uL [(uaa KCe),jG]
abbrev Xaf:List Sh:=uL [CB,CW,I64,I64,ej,I64,.bool]
abbrev Zaf:List Sh:=uL [I64,(uaa KCe),I64,I64,I64,I64,I64,CW]
abbrev uag:List Sh:=uL [I64,I64,I64,I64,I64,I64,N1,N1]
abbrev yag:List Sh:=uL [.bool,.bool,.bool,.bool]
abbrev zag:List Sh:=uL [RW,RW,(yaa RW),(yaa ej),iK,j5]
abbrev Uag:List Sh:=uL [(yaa CB),.bool]
abbrev Xag:List Sh:=uL [(uaa KCn)]
abbrev Zag:List Sh:=uL [N1,N1,N1,N1,CW,N1,N1,N1,N1,N1,N1,N1,N1,N1,N1,N1,N1,N1]
abbrev uah:List Sh:=uL [RI,CW,(uaa KCe),jG,(uaa Pt)]
abbrev yah:List Sh:=uL [I64,I64,I64,I64,I64,I64,CW,ej]
abbrev zah:List Sh:=uL [(uaa CB)]
abbrev Uah:List Sh:=uL [N1,N1,N1,N1,N1,N1]
abbrev Xah:List Sh:=uL [(uaa ej)]
abbrev Zah:List Sh:=uL [CB,CW,I64]
abbrev uai:List Sh:=uL [(uaa KIn),RI,(uaa (uaa CW))]
abbrev yai:List Sh:=uL [ff,RI,(uaa (uaa CW))]
abbrev zai:List Sh:=uL [I64,I64,.bool]
abbrev Uai:List Sh:=uL [(uaa (uaa CW))]
abbrev Xai:List Sh:=uL [(uaa (uaa KCn))]
abbrev Zai:List Sh:=uL [RI,CW,(uaa KCe),jG,N1]
abbrev uaj:List Sh:=uL [(uaa I64),CW,(uaa KCe),jG,p9]
abbrev yaj:List Sh:=uL [(uaa I64),CW]
abbrev zaj:List Sh:=uL [(uaa IN)]
abbrev Uaj:List Sh:=uL [(uaa CW),(uaa CW),(uaa (uaa CW)),(uaa (uaa KCn)),(uaa KOp),(uaa IN)]
abbrev Xaj:List Sh:=uL [I64,I64,I64,I64,I64,I64,(uaa KCn),N1]
abbrev Zaj:List Sh:=uL [I64,I64,I64,I64,I64,I64,(uaa KCn),(uaa KCn)]
abbrev uak:List Sh:=uL [I64,I64,I64]
abbrev yak:List Sh:=uL [(uaa I64),CW,(uaa KCe),jG,N1]
abbrev zak:List Sh:=uL [(uaa (.pair (yaa ej) (yaa jP)))]
abbrev Uak:List Sh:=uL [(uaa (uaa KCn)),(uaa KOp),I64]
abbrev Xak:List Sh:=uL [RI,CW,fq,fV,p9]
abbrev Zak:List Sh:=uL [RI,CW,(uaa KCe),jG,p9,.bool]
abbrev ual:List Sh:=uL [(uaa (uaa KCn)),(uaa KOp),.bool]
abbrev yal:List Sh:=uL [CB,CW,I64,I64,(uaa KCn),I64,.bool]
abbrev zal:List Sh:=uL [RI,CW,fq,fV,gD,.bool]
abbrev Ual:List Sh:=uL [ff,RI,(yaa RW),RI,CW,fq,fV,gD,RW,RW,(yaa RW),(yaa ej),iK,j5,RI,(yaa RI),(uaa u7)]
abbrev Xal:List Sh:=uL [I64,I64,I64,I64,I64,I64,CW,(uaa KCn)]
abbrev Zal:List Sh:=uL [(uaa (.pair RI CW))]
def iS(a0:Int) (a1:Int):Option (Int×Unit):=
bif (a1 != 0) then let x0:Int:=(Int.tmod a0 a1);
(bif decide (x0 < 0) then (let x1:Int:=(w64 (x0+a1));
some (x1,())) else
some (x0,()):Option (Int×Unit)).bind λ(x1,_)=>
some (x1,()) else none
def Ii:X.Cfg:=⟨E0,[],[],[⟨2,0,qE,[(.normal,qS [Uaa 5] [])]⟩]⟩
def u4:Ctr:=⟨58,0,uad,[],[⟨Uac,[.one],[]⟩],ap2 iS⟩
theorem Aq:Lk 1 u4:=ls Ii aN
def is(a0:Int) (a1:Int):Option (Int×Unit):=
(iS a0 a1).bind λ(x0,_)=>
some (x0,())
def O0:X.Cfg:=⟨E0,[u4],[],[]⟩
def zE:Ctr:=⟨21,1,uad,[],[⟨Uac,[.one],[]⟩],ap2 is⟩
theorem DG:Lk 2 zE:=ls O0 (aC Aq aN)
def dT(a0:Int) (a1:List (Int)) (a2:Int):Option (T0i):=
let x0:=dQ a1.length;
bif decide (a2>=x0) then (some (0,a1,a2,())) else
let x1:=w64 (a2+1);
let x2:=w64 (x1 - 1);
(ee x2).bind λx3=>
(dO a1 x3).bind λx4=>
(is x4 a0).bind λ(x5,_)=>
some (x5,a1,x1,())
def Im:X.Cfg:=⟨E0,[zE],[],[]⟩
def gu:Ctr:=⟨28,2,[.ptr ⟨2,0,[]⟩ [0],shU I64],[(2,Uab)],[⟨Uac,[.one],[(2,Uab)]⟩],ap3 dT⟩
theorem gT:Lk 3 gu:=ls Im (aC DG aN)
def sE:T0z->Option (T0z⊕(Int×Bool×T0o)):=λ(v0,v1,v2,v3,_)=>
bif decide (v0 > 0) then (let x0:List (Int):=[6,12,32];
(dT 3 v1 v2).bind λ(x1,x2,x3,_)=>
(ee x1).bind λx4=>
(dO x0 x4).bind λx5=>
(dO x0 x4).bind λx6=>
(dT x6 x2 x3).bind λ(x7,x8,x9,_)=>
let ac:=w64 (1+x7);
bif (d9 8 v3.length (List.length [ac])) then let ae:List (Int):=(List.append v3 [ac]);
let af:=w64 (v0 - 1);
some (.inl (af,x8,x9,ae,())) else none) else
some (.inr (v0,false,v1,v2,v3,()))
def pz(a0:List (Int)) (a1:Int):Option (LI×T07):=
(dT 9 a0 a1).bind λ(x0,x1,x2,_)=>
let x3:=w64 (4+x0);
(dT 4 x1 x2).bind λ(x4,x5,x6,_)=>
(dW sE NN (x4,x5,x6,[x3],())).bind λ(x7,x8,x9,ac,ae,_)=>
some (ae,x9,ac,())
def GI:X.Cfg:=⟨E0,[gu],[],[(lx 4 0 [zaa 0,Zaa 3 9,Uaa 4] [(2,Uab),(9,yae)] 12)]⟩
def yK:Ctr:=⟨115,3,[.ptr ⟨2,0,[]⟩ [0]],[(2,Uab)],[⟨yae,[.one],[(2,Uab)]⟩],ap2 pz⟩
theorem FV:Lk 4 yK:=ls GI (aC gT aN)
def jz(a0:List (Int)) (a1:Int):Option (T0i):=
(dT 5 a0 a1).bind λ(x0,x1)=>
(bif (x0==0) then (some (x0,true,x1)) else
bif (x0==1) then (some (x0,true,x1)) else
some (x0,(x0==2),x1):Option (T0s)).bind λ(x3,x4,x5,x6,_)=>
bif x4 then ((dT 8 x5 x6).bind λ(x7,x8,x9,_)=>
let ac:=wk .u16 x7;
some (ac,x8,x9,())) else
bif (x3==3) then ((dT 3 x5 x6).bind λ(x7,x8,x9,_)=>
let ac:=w64 (65535 - x7);
let ae:=wk .u16 ac;
some (ae,x8,x9,())) else
(dT 65536 x5 x6).bind λ(x7,x8,x9,_)=>
let ac:=wk .u16 x7;
some (ac,x8,x9,())
def Il:X.Cfg:=⟨E0,[gu],[],[⟨3,0,qE,[(.normal,qS [zaa 0,Uaa 4,Xaa 5] [(2,Uab)])]⟩]⟩
def oP:Ctr:=⟨81,4,[.ptr ⟨2,0,[]⟩ [0]],[(2,Uab)],[⟨uL [CW],[.one],[(2,Uab)]⟩],ap2 jz⟩
theorem ro:Lk 4 oP:=ls Il (aC gT aN)
def sD:T0z->Option (T0z⊕(Int×Bool×T0o)):=λ(v0,v1,v2,v3,_)=>
bif decide (v0 > 0) then ((jz v1 v2).bind λ(x0,x1,x2,_)=>
bif (d9 2 v3.length (List.length [x0])) then let x3:List (Int):=(List.append v3 [x0]);
let x4:=w64 (v0 - 1);
some (.inl (x4,x1,x2,x3,())) else none) else
some (.inr (v0,false,v1,v2,v3,()))
def gJ(a0:Int) (a1:List (Int)) (a2:Int):Option (LI×T07):=
let x0:=w64 (a0+1);
(dT x0 a1 a2).bind λ(x1,x2,x3,_)=>
(dW sD NN (x1,x2,x3,[],())).bind λ(x4,x5,x6,x7,x8,_)=>
some (x8,x6,x7,())
def GH:X.Cfg:=⟨E0,[gu,oP],[],[(lx 4 0 [zaa 0,Zaa 5 13,Uaa 6] [(2,Uab),(13,uL [(uaa CW)])] 12)]⟩
def tH:Ctr:=⟨116,5,[.ptr ⟨2,0,[]⟩ [0],shU I64],[(2,Uab)],[⟨uL [(uaa CW)],[.one],[(2,Uab)]⟩],ap3 gJ⟩
theorem ye:Lk 5 tH:=ls GH (aC gT (aC ro aN))
def jy(a0:Int) (a1:Int):Option (T0U):=
some (1,a0,0,0,a1,())
def Q0:X.Cfg:=⟨E0,[],[],[]⟩
def IG:Ctr:=⟨118,6,uad,[],[⟨Uad,[.agg 5],[]⟩],ap2 jy⟩
theorem MR:Lk 1 IG:=ls Q0 aN
def iT(a0:Int):Option (T0U):=
some (23,0,0,0,a0,())
def OY:X.Cfg:=⟨E0,[],[],[]⟩
def EM:Ctr:=⟨119,7,Uac,[],[⟨Uad,[.agg 5],[]⟩],ap1 iT⟩
theorem Jm:Lk 1 EM:=ls OY aN
def nQ(a0:Int) (a1:Int):Option (T0U):=
some (2,a0,a1,0,0,())
def OZ:X.Cfg:=⟨E0,[],[],[]⟩
def JJ:Ctr:=⟨148,8,uad,[],[⟨Uad,[.agg 5],[]⟩],ap2 nQ⟩
theorem OO:Lk 1 JJ:=ls OZ aN
def jw(a0:Int):Option (T0q):=
(bif (a0==1) then (some (a0,true,false,false,false,false,())) else
bif (a0==15) then (some (a0,true,false,false,false,false,())) else
bif (a0==19) then (some (a0,true,false,false,false,false,())) else
bif (a0==20) then (some (a0,true,false,false,false,false,())) else
some (a0,(a0==21),false,false,false,false,()):Option (Int×Bool×T0q)).bind λ(x0,x1,_)=>
bif x1 then (some (true,false,false,true,())) else
bif (x0==2) then (some (true,true,false,false,())) else
bif (x0==16) then (some (true,true,false,true,())) else
bif (x0==17) then (some (true,true,false,true,())) else
bif (x0==18) then (some (false,false,false,true,())) else
bif (x0==23) then (some (false,false,false,true,())) else
bif (x0==22) then (some (true,false,false,false,())) else
bif (x0==0) then (some (false,false,false,false,())) else
bif (x0==24) then (some (false,false,false,false,())) else
some (true,true,true,false,())
def Gt:X.Cfg:=⟨E0,[],[],[⟨3,0,qE,[(.normal,qS [zaa 2,Uaa 3,Xaa 4] [(6,yag)])]⟩]⟩
def tA:Ctr:=⟨142,9,Uac,[],[⟨yag,[.agg 4],[]⟩],ap1 jw⟩
theorem ya:Lk 1 tA:=ls Gt aN
def hZ(a0:Int):Option (Bool×Unit):=
bif (a0==18) then (some (true,())) else
bif (a0==19) then (some (true,())) else
bif (a0==20) then (some (true,())) else
some ((a0==21),())
def Gu:X.Cfg:=⟨E0,[],[],[]⟩
def kS:Ctr:=⟨99,10,Uac,[],[⟨zab,[.one],[]⟩],ap1 hZ⟩
theorem nc:Lk 1 kS:=ls Gu aN
def pA(a0:Int) (a1:Int) (a2:List (Int)) (a3:Int):Option (Int×T1c):=
(dT 25 a2 a3).bind λ(x0,x1,x2,_)=>
(jw x0).bind λ(x3,x4)=>
(bif x3 then ((dT 8 x1 x2).bind λ(x7,x8,x9,_)=>
some (a0,a1,x8,x9,0,0,0,0,0,x0,x7,0,0,0,x3,x4)) else
some (a0,a1,x1,x2,0,0,0,0,0,x0,0,0,0,0,x3,x4):Option (T39)).bind λ(x7,x8,x9,ac,ae,af,ag,ah,ai,aj,ak,am,an,ap,aq,av,ax)=>
(bif av then ((dT 8 x9 ac).bind λ(az,aA,aB,_)=>
some (x7,x8,aA,aB,ae,af,ag,ah,ai,aj,ak,az,an,ap,aq,av,ax)) else
some (x7,x8,x9,ac,ae,af,ag,ah,ai,aj,ak,am,an,ap,aq,av,ax):Option (T39)).bind λ(az,aA,aB,aD,aE,aF,aG,aH,aI,aJ,aK,aL,aM,aO,aP,aQ,aR,aS,_)=>
(bif aR then ((dT 8 aB aD).bind λ(aT,aU,aV,_)=>
some (az,aA,aU,aV,aE,aF,aG,aH,aI,aJ,aK,aL,aT,aO,aP,aQ,aR,aS,())) else
some (az,aA,aB,aD,aE,aF,aG,aH,aI,aJ,aK,aL,aM,aO,aP,aQ,aR,aS,()):Option (T39)).bind λ(aT,aU,aV,aW,aY,aZ,ba,bc,bd,bf,bg,bh,bi,bj,bk,bm,bn,bo,_)=>
((hZ bf).bind λ(bp,_)=>
bif bp then ((dT aU aV aW).bind λ(bq,bt,bv,_)=>
some (bt,bv,aY,aZ,ba,bc,bd,bf,bg,bh,bi,bq,())) else
bif (bf==15) then ((dT aT aV aW).bind λ(bq,bt,bv,_)=>
some (bt,bv,aY,aZ,ba,bc,bd,bf,bg,bh,bi,bq,())) else
bif (bf==23) then ((dT 16 aV aW).bind λ(bq,bt,bv,_)=>
some (bt,bv,aY,aZ,ba,bc,bd,bf,bg,bh,bi,bq,())) else
bif bo then ((jz aV aW).bind λ(bq,bt,bv,_)=>
let bx:=wk .i64 bq;
some (bt,bv,aY,aZ,ba,bc,bd,bf,bg,bh,bi,bx,())) else
some (aV,aW,aY,aZ,ba,bc,bd,bf,bg,bh,bi,bj,()):Option (LI×Int×Int×T20)).bind λ(bp,bq,bt,bv,bx,bA,bB,bC,bD,bE,bF,bG,_)=>
some (bC,bD,bE,bF,bG,bp,bq,())
def GJ:X.Cfg:=⟨E0,[gu,tA,kS,oP],[],[⟨3,0,qE,[(.normal,qS [zaa 0,Uaa 1,Uaa 2,zaa 6,zaa 7,zaa 8] [(2,Uab),(14,Uad),(16,Uad),(18,yag)])]⟩,⟨5,1,qE,[(.normal,qS [zaa 0,Uaa 1,Uaa 2,zaa 6,zaa 7,zaa 8] [(2,Uab),(14,Uad),(16,Uad),(18,yag)])]⟩,⟨7,2,qE,[(.normal,qS [zaa 0,Uaa 1,Uaa 2,zaa 6,zaa 7,zaa 8] [(2,Uab),(14,Uad),(16,Uad),(18,yag)])]⟩,⟨9,3,qE,[(.normal,qS [zaa 0,zaa 6,zaa 7] [(2,Uab),(14,Uad),(16,Uad)])]⟩]⟩
def yL:Ctr:=⟨149,11,[.ptr ⟨2,0,[]⟩ [0],shU I64,shU I64],[(2,Uab)],[⟨Uad,[.agg 5],[(2,Uab)]⟩],ap4 pA⟩
theorem FW:Lk 5 yL:=ls GJ (aC gT (aC ya (aC nc (aC ro aN))))
def q7(a0:List (Int)) (a1:Int) (a2:Int) (a3:List (Int)) (a4:Int):Option (LDIn×T07):=
let x0:=dQ a0.length;
(dT x0 a3 a4).bind λ(x1,x2,x3,_)=>
(ee x1).bind λx4=>
(dO a0 x4).bind λx5=>
let x6:=w64 (x5+1);
let x7:=mmR false 5 x6;
(dT x7 x2 x3).bind λ(x8,x9,ac,_)=>
(jy 2 x8).bind λ(ae,af,ag,ah,ai,_)=>
let aj:LDIn:=[(15,(1,(0,(0,x1)))),(ae,(af,(ag,(ah,ai))))];
(dT 20 x9 ac).bind λ(ak,am,an,_)=>
bif (ak==0) then ((dT 3 am an).bind λ(ap,aq,av,_)=>
let ax:=w64 (3+ap);
(jz aq av).bind λ(ay,az,aA,_)=>
let aB:=wk .i64 ay;
(jy ax aB).bind λ(aD,aE,aF,aG,aH,_)=>
let aI:LDIn:=[(aD,(aE,(aF,(aG,aH))))];
some (aI,az,aA,())) else
bif (ak==1) then (let ap:List (Int):=[3,4,5,10,13,14,11,9];
(dT 8 am an).bind λ(aq,av,ax,_)=>
(ee aq).bind λay=>
(dO ap ay).bind λaz=>
(dO ap ay).bind λaA=>
(dT 3 av ax).bind λ(aB,aD,aE,_)=>
let aF:=w64 (3+aB);
(dT 3 aD aE).bind λ(aG,aH,aI,_)=>
let aJ:=w64 (3+aG);
(dT 3 aH aI).bind λ(aK,aL,aM,_)=>
let aO:=w64 (3+aK);
let aP:LDIn:=[(aA,(aF,(aJ,(aO,0))))];
some (aP,aL,aM,())) else
bif (ak==2) then (let ap:LDIn:=[(15,(6,(0,(0,x1))))];
some (ap,am,an,())) else
bif (ak==3) then ((dT 5 am an).bind λ(ap,aq,av,_)=>
let ax:=w64 (3+ap);
(ee x1).bind λay=>
(dO a0 ay).bind λaz=>
(dT az aq av).bind λ(aA,aB,aD,_)=>
let aE:LDIn:=[(15,(6,(0,(0,x1)))),(17,(6,(ax,(0,aA))))];
some (aE,aB,aD,())) else
bif (ak==4) then ((dT 5 am an).bind λ(ap,aq,av,_)=>
let ax:=w64 (3+ap);
(ee x1).bind λay=>
(dO a0 ay).bind λaz=>
(dT az aq av).bind λ(aA,aB,aD,_)=>
let aE:LDIn:=[(15,(6,(0,(0,x1)))),(17,(6,(ax,(0,aA))))];
some (aE,aB,aD,())) else
bif (ak==5) then ((dT 4 am an).bind λ(ap,aq,av,_)=>
let ax:=w64 (3+ap);
(ee x1).bind λay=>
(dO a0 ay).bind λaz=>
(dT az aq av).bind λ(aA,aB,aD,_)=>
let aE:LDIn:=[(15,(6,(0,(0,x1)))),(16,(ax,(6,(0,aA))))];
some (aE,aB,aD,())) else
bif (ak==6) then ((dT 4 am an).bind λ(ap,aq,av,_)=>
let ax:=w64 (3+ap);
(ee x1).bind λay=>
(dO a0 ay).bind λaz=>
(dT az aq av).bind λ(aA,aB,aD,_)=>
let aE:LDIn:=[(15,(6,(0,(0,x1)))),(16,(ax,(6,(0,aA))))];
some (aE,aB,aD,())) else
bif (ak==7) then ((dT 3 am an).bind λ(ap,aq,av,_)=>
(jy 0 ap).bind λ(ax,ay,az,aA,aB,_)=>
let aD:LDIn:=[(ax,(ay,(az,(aA,aB))))];
bif (d9 40 aD.length aj.length) then let aE:LDIn:=(List.append aD aj);
(iT 13).bind λ(aF,aG,aH,aI,aJ,_)=>
let aK:LDIn:=[(aF,(aG,(aH,(aI,aJ))))];
bif (d9 40 aE.length aK.length) then let aL:LDIn:=(List.append aE aK);
some (aL,aq,av,()) else none else none) else
bif (ak==8) then ((dT 3 am an).bind λ(ap,aq,av,_)=>
(jy 0 ap).bind λ(ax,ay,az,aA,aB,_)=>
let aD:LDIn:=[(ax,(ay,(az,(aA,aB))))];
bif (d9 40 aD.length aj.length) then let aE:LDIn:=(List.append aD aj);
(iT 13).bind λ(aF,aG,aH,aI,aJ,_)=>
let aK:LDIn:=[(aF,(aG,(aH,(aI,aJ))))];
bif (d9 40 aE.length aK.length) then let aL:LDIn:=(List.append aE aK);
some (aL,aq,av,()) else none else none) else
bif (ak==9) then ((dT 3 am an).bind λ(ap,aq,av,_)=>
(jy 0 ap).bind λ(ax,ay,az,aA,aB,_)=>
let aD:LDIn:=[(ax,(ay,(az,(aA,aB))))];
bif (d9 40 aD.length aj.length) then let aE:LDIn:=(List.append aD aj);
(iT 14).bind λ(aF,aG,aH,aI,aJ,_)=>
(nQ 3 0).bind λ(aK,aL,aM,aO,aP,_)=>
let aQ:LDIn:=[(aF,(aG,(aH,(aI,aJ)))),(aK,(aL,(aM,(aO,aP))))];
bif (d9 40 aE.length aQ.length) then let aR:LDIn:=(List.append aE aQ);
some (aR,aq,av,()) else none else none) else
bif (ak==10) then ((dT 3 am an).bind λ(ap,aq,av,_)=>
(jy 0 ap).bind λ(ax,ay,az,aA,aB,_)=>
(dT 4 aq av).bind λ(aD,aE,aF,_)=>
(jy 1 aD).bind λ(aG,aH,aI,aJ,aK,_)=>
(iT 3).bind λ(aL,aM,aO,aP,aQ,_)=>
(nQ 7 0).bind λ(aR,aS,aT,aU,aV,_)=>
let aW:LDIn:=[(ax,(ay,(az,(aA,aB)))),(aG,(aH,(aI,(aJ,aK)))),(aL,(aM,(aO,(aP,aQ)))),(aR,(aS,(aT,(aU,aV))))];
some (aW,aE,aF,())) else
bif (ak==11) then ((nQ 0 7).bind λ(ap,aq,av,ax,ay,_)=>
let az:LDIn:=[(ap,(aq,(av,(ax,ay))))];
bif (d9 40 az.length aj.length) then let aA:LDIn:=(List.append az aj);
let aB:List (Int):=[1,2];
(dT 2 am an).bind λ(aD,aE,aF,_)=>
(ee aD).bind λaG=>
(dO aB aG).bind λaH=>
(dO aB aG).bind λaI=>
(iT aI).bind λ(aJ,aK,aL,aM,aO,_)=>
let aP:LDIn:=[(aJ,(aK,(aL,(aM,aO))))];
bif (d9 40 aA.length aP.length) then let aQ:LDIn:=(List.append aA aP);
some (aQ,aE,aF,()) else none else none) else
bif (ak==12) then ((nQ 0 7).bind λ(ap,aq,av,ax,ay,_)=>
(iT 4).bind λ(az,aA,aB,aD,aE,_)=>
let aF:LDIn:=[(ap,(aq,(av,(ax,ay)))),(az,(aA,(aB,(aD,aE))))];
(nQ 0 7).bind λ(aG,aH,aI,aJ,aK,_)=>
(dT 4 am an).bind λ(aL,aM,aO,_)=>
(jy 1 aL).bind λ(aP,aQ,aR,aS,aT,_)=>
(iT 5).bind λ(aU,aV,aW,aY,aZ,_)=>
let ba:LDIn:=[(aG,(aH,(aI,(aJ,aK)))),(aP,(aQ,(aR,(aS,aT)))),(aU,(aV,(aW,(aY,aZ))))];
let bc:List LDIn:=[aF,ba];
(dT 2 aM aO).bind λ(bd,bf)=>
(ee bd).bind λbh=>
(dO bc bh).bind λbi=>
(dO bc bh).bind λbj=>
(dO bc bh).bind λbk=>
some (bk,bf)) else
bif (ak==13) then (let ap:List (Int):=[6,7,15];
(dT 3 am an).bind λ(aq,av,ax,_)=>
(ee aq).bind λay=>
(dO ap ay).bind λaz=>
(dO ap ay).bind λaA=>
(iT aA).bind λ(aB,aD,aE,aF,aG,_)=>
(dT 3 av ax).bind λ(aH,aI,aJ,_)=>
let aK:=w64 (3+aH);
(nQ aK 0).bind λ(aL,aM,aO,aP,aQ,_)=>
let aR:LDIn:=[(aB,(aD,(aE,(aF,aG)))),(aL,(aM,(aO,(aP,aQ))))];
some (aR,aI,aJ,())) else
bif (ak==14) then ((dT 3 am an).bind λ(ap,aq,av,_)=>
(jy 0 ap).bind λ(ax,ay,az,aA,aB,_)=>
let aD:List (Int):=[8,9];
(dT 2 aq av).bind λ(aE,aF,aG,_)=>
(ee aE).bind λaH=>
(dO aD aH).bind λaI=>
(dO aD aH).bind λaJ=>
(iT aJ).bind λ(aK,aL,aM,aO,aP,_)=>
let aQ:LDIn:=[(ax,(ay,(az,(aA,aB)))),(aK,(aL,(aM,(aO,aP))))];
some (aQ,aF,aG,())) else
bif (ak==15) then ((dT 3 am an).bind λ(ap,aq,av,_)=>
(jy 0 ap).bind λ(ax,ay,az,aA,aB,_)=>
let aD:List (Int):=[8,9];
(dT 2 aq av).bind λ(aE,aF,aG,_)=>
(ee aE).bind λaH=>
(dO aD aH).bind λaI=>
(dO aD aH).bind λaJ=>
(iT aJ).bind λ(aK,aL,aM,aO,aP,_)=>
let aQ:LDIn:=[(ax,(ay,(az,(aA,aB)))),(aK,(aL,(aM,(aO,aP))))];
some (aQ,aF,aG,())) else
bif (ak==16) then ((dT a1 am an).bind λ(ap,aq,av,_)=>
(jy 0 ap).bind λ(ax,ay,az,aA,aB,_)=>
(nQ 1 3).bind λ(aD,aE,aF,aG,aH,_)=>
(iT 10).bind λ(aI,aJ,aK,aL,aM,_)=>
let aO:LDIn:=[(ax,(ay,(az,(aA,aB)))),(aD,(aE,(aF,(aG,aH)))),(aI,(aJ,(aK,(aL,aM))))];
some (aO,aq,av,())) else
bif (ak==17) then (let ap:List (Int):=[a1,5];
(dT 2 am an).bind λ(aq,av,ax,_)=>
(ee aq).bind λay=>
(dO ap ay).bind λaz=>
(dO ap ay).bind λaA=>
(dT aA av ax).bind λ(aB,aD,aE,_)=>
(jy 0 aB).bind λ(aF,aG,aH,aI,aJ,_)=>
let aK:List (Int):=[12,11];
(dT 2 aD aE).bind λ(aL,aM,aO,_)=>
(ee aL).bind λaP=>
(dO aK aP).bind λaQ=>
(dO aK aP).bind λaR=>
(iT aR).bind λ(aS,aT,aU,aV,aW,_)=>
let aY:LDIn:=[(aF,(aG,(aH,(aI,aJ)))),(aS,(aT,(aU,(aV,aW))))];
some (aY,aM,aO,())) else
bif (ak==18) then ((dT 4 am an).bind λ(ap,aq,av,_)=>
let ax:=w64 (1+ap);
(jy 5 ax).bind λ(ay,az,aA,aB,aD,_)=>
(jy 4 1).bind λ(aE,aF,aG,aH,aI,_)=>
let aJ:=w64 (a2+2);
let aK:LDIn:=[(ay,(az,(aA,(aB,aD)))),(aE,(aF,(aG,(aH,aI)))),(4,(5,(5,(4,0)))),(20,(5,(0,(0,aJ))))];
some (aK,aq,av,())) else
let ap:=dQ a0.length;
(pA ap a1 am an).bind λ(aq,av,ax,ay,az,aA,aB,_)=>
let aD:LDIn:=[(aq,(av,(ax,(ay,az))))];
some (aD,aA,aB,())
def Ik:X.Cfg:=⟨E0,[gu,IG,oP,EM,JJ,yL],[(156,(uaa KIn))],[]⟩
def Bb:Ctr:=⟨117,12,[.ptr ⟨2,0,[]⟩ [0],shU RI,shU I64,shU I64],[(2,Uab)],[⟨uL [ff],[.one],[(2,Uab)]⟩],ap5 q7⟩
theorem H3:Lk 6 Bb:=ls Ik (aC gT (aC MR (aC ro (aC Jm (aC OO (aC FW aN))))))
def qg:T2m->Option (T2m⊕(Int×Int×Bool×T1V)):=λ(v0,v1,v2,v3,v4,v5,v6,v7,v8,v9,_)=>
bif decide (v1 < v0) then ((ee v1).bind λx0=>
(dO v8 x0).bind λx1=>
(dO v8 x0).bind λx2=>
(gJ x2 v2 v3).bind λ(x3,x4,x5,_)=>
bif (d9 24 v9.length (List.length [x3])) then let x6:List LI:=(List.append v9 [x3]);
let x7:=w64 (v1+1);
some (.inl (v0,x7,x4,x5,v4,v5,v6,v7,v8,x6,())) else none) else
some (.inr (v0,v1,false,v2,v3,v4,v5,v6,v7,v8,v9,()))
def qf:T25->Option (T25⊕T2h):=λ(v0,v1,v2,v3,v4,v5,v6,v7,v8,_)=>
bif decide (v0 > 0) then ((let x0:Int:=(dQ v6.length);
let x1:=w64 (x0+1);
let x2:=dQ v6.length;
(q7 v7 x1 x2 v1 v2).bind λ(x3,x4,x5,_)=>
let x6:=dQ v6.length;
let x7:=dQ x3.length;
let x8:=w64 (x6+x7);
bif decide (x8<=62) then (bif (d9 40 v6.length x3.length) then let x9:LDIn:=(List.append v6 x3);
some (v0,x4,x5,v3,v4,v5,x9,v7,v8,()) else none) else
some (v0,x4,x5,v3,v4,v5,v6,v7,v8,()):Option (T25)).bind λ(x0,x1,x2,x3,x4,x5,x6,x7,x8,_)=>
let x9:=w64 (x0 - 1);
some (.inl (x9,x1,x2,x3,x4,x5,x6,x7,x8,()))) else
some (.inr (v0,false,v1,v2,v3,v4,v5,v6,v7,v8,()))
def iC:T2l->Option (T2l⊕(Int×T2h)):=λ(v0,v1,v2,v3,v4,v5,v6,v7,v8)=>
bif decide (v1 < v0) then (((ee v1).bind λx0=>
(dO v7 x0).bind λx1=>
(hZ x1.1).bind λ(x2,_)=>
bif x2 then ((ee v1).bind λx3=>
(dO v7 x3).bind λx4=>
let x5:=dQ v7.length;
bif decide (x4.2.2.2.2>=x5) then ((ee v1).bind λx6=>
(dO v7 x6).bind λx7=>
none) else
some (v0,v1,v2,v3,v4,v5,v6,v7,v8)) else
some (v0,v1,v2,v3,v4,v5,v6,v7,v8):Option (T2l)).bind λ(x0,x1,x2,x3,x4,x5,x6,x7,x8)=>
let ac:=w64 (x1+1);
some (.inl (x0,ac,x2,x3,x4,x5,x6,x7,x8))) else
some (.inr (v0,v1,false,v2,v3,v4,v5,v6,v7,v8))
def mJ(a0:List (Int)) (a1:Int):Option (LDIn×LI×LLI×T07):=
(pz a0 a1).bind λ(x0,x1,x2,_)=>
let x3:=dQ x0.length;
(dW qg NN (x3,0,x1,x2,(),(),(),(),x0,[],())).bind λ(x4,x5,x6,x7,x8,x9,ac,ae,af,ag)=>
(dT 12 x7 x8).bind λ(ai,aj,ak,_)=>
let am:=w64 (1+ai);
(dW qf NN (am,aj,ak,x9,ac,ae,[],ag)).bind λ(an,ap,aq,av,ax,ay,az,aA,aB)=>
((dT 4 aq av).bind λ(aE,aF,aG,_)=>
bif (aE==0) then (let aH:Int:=(dQ aA.length);
let aI:=w64 (aH+1);
(dT aI aF aG).bind λ(aJ,aK,aL,_)=>
let aM:LDIn:=[(18,(0,(0,(0,aJ))))];
bif (d9 40 aA.length aM.length) then let aO:LDIn:=(List.append aA aM);
some (aK,aL,ax,ay,az,aO,aB) else none) else
bif (aE==1) then (let aH:LDIn:=[(24,(0,(0,(0,0))))];
bif (d9 40 aA.length aH.length) then let aI:LDIn:=(List.append aA aH);
some (aF,aG,ax,ay,az,aI,aB) else none) else
some (aF,aG,ax,ay,az,aA,aB):Option (T1U)).bind λ(aE,aF,aG,aH,aI,aJ,aK,aL,_)=>
(dT 9 aE aF).bind λ(aM,aO,aP,_)=>
(jy 0 aM).bind λ(aQ,aR,aS,aT,aU,_)=>
(iT 0).bind λ(aV,aW,aY,aZ,ba,_)=>
let bc:LDIn:=[(aQ,(aR,(aS,(aT,aU)))),(aV,(aW,(aY,(aZ,ba))))];
bif (d9 40 aJ.length bc.length) then let bd:LDIn:=(List.append aJ bc);
let bf:=dQ bd.length;
bif decide (bf > 64) then (bif (ir 0 64 bd.length) then let bg:LDIn:=(kU bd 0 (Nat.sub 64 0));
let bh:=dQ bg.length;
(dW iC NN (bh,0,aO,aP,aG,aH,aI,bg,aK,aL,())).bind λ(bi,bj,bk,bm,bn,bo,bp,bq,bt,bv,bx,_)=>
some (bt,bv,bx,bm,bn,()) else none) else
let bg:=dQ bd.length;
(dW iC NN (bg,0,aO,aP,aG,aH,aI,bd,aK,aL,())).bind λ(bh,bi,bj,bk,bm,bn,bo,bp,bq,bt,bv,_)=>
some (bq,bt,bv,bk,bm,()) else none
def BZ:X.Cfg:=⟨E0,[yK,tH,gu,Bb,IG,EM,kS],[(24,(uaa CW)),(25,(uaa CW))],[(lx 4 0 [zaa 0,zaa 2,zaa 3,(13,.pk ⟨8,1,[]⟩ [0,0]),Uaa 14,Uaa 15] [(2,Uab),(6,uae),(8,uL [N1,(uaa I64),(uaa (uaa CW))])] 16),⟨14,1,qE,[(.normal,qS [zaa 0,zaa 2,zaa 3,Uaa 6] [(2,Uab),(6,uae),(8,uai)])]⟩,⟨11,2,qS [zaa 0,zaa 2,zaa 3,Uaa 6] [(2,Uab),(6,uae),(8,uai)],[(.exit 2,qS [zaa 0,zaa 2,zaa 3,Uaa 6,Xaa 32] [(2,Uab),(6,uae),(8,uai)])]⟩,⟨17,3,qE,[(.normal,qS [zaa 0,zaa 2,zaa 3] [(2,Uab),(6,uae),(8,uai)])]⟩,⟨29,4,qE,[(.normal,qS [zaa 0,zaa 2,zaa 3,Uaa 101,Uaa 102] [(2,Uab),(6,uae),(8,yai)])]⟩,⟨26,5,qS [zaa 0,zaa 2,zaa 3,Uaa 101,Uaa 102] [(2,Uab),(6,uae),(8,yai)],[(.exit 5,qS [zaa 0,zaa 2,zaa 3,Uaa 101,Uaa 102,Xaa 103] [(2,Uab),(6,uae),(8,yai)])]⟩]⟩
def uI:Ctr:=⟨73,13,[.ptr ⟨2,0,[]⟩ [0]],[(2,Uab)],[⟨yai,[.agg 3],[(2,Uab)]⟩],ap2 mJ⟩
theorem BC:Lk 7 uI:=ls BZ (aC FV (aC ye (aC gT (aC H3 (aC MR (aC Jm (aC nc aN)))))))
def nu:T0J->Option (T0J⊕((Bool×Unit)⊕(LI×T0G))):=λ(v0,v1,v2,v3,_)=>
bif decide (v3 < v2) then ((ee v3).bind λx0=>
(dO v1 x0).bind λx1=>
bif decide (x1 < 1) then (some (.inr (.inl (false,())))) else
bif decide (x1 > 32) then (some (.inr (.inl (false,())))) else
let x2:=w64 (v3+1);
some (.inl (v0,v1,v2,x2,()))) else
some (.inr (.inr (v0,v1,v2,v3,false,())))
def gH(a0:List (Int)):Option (Bool×Unit):=
let x0:=dQ a0.length;
(match dW nu NN (a0,a0,x0,0,()) with
| none=>none
| some (.inl (x1,_))=>
some (x1,())
| some (.inr (x1,_))=>
let x6:=dQ x1.length;
bif decide (x6>=1) then (let x7:Int:=(dQ x1.length);
some ((decide (x7<=4)),())) else
some (false,()))
def En:X.Cfg:=⟨E0,[],[],[⟨3,0,qS [sP 0 RI,sP 5 RI,Uaa 6,Uaa 7] [],[(.ret,qS [Xaa 2] []),(.exit 0,qS [sP 0 RI,sP 5 RI,Uaa 6,Uaa 7,Xaa 8] [])]⟩]⟩
def oa:Ctr:=⟨40,14,uL [RI],[],[⟨zab,[.one],[]⟩],ap1 gH⟩
theorem rj:Lk 1 oa:=ls En aN
def sC:T2n->Option (T2n⊕(LI×Int×Int×Int×Int×Int×Bool×T0K)):=λ(v0,v1,v2,v3,v4,v5,v6,v7,v8,v9,_)=>
bif decide (v5 < v4) then (let x0:Int:=(w64 (v5+v1));
bif (v2 != 0) then let x1:Int:=(Int.tmod x0 v2);
(ee x1).bind λx2=>
(dO v8 x2).bind λx3=>
(dO v8 x2).bind λx4=>
let x5:=List.modify v8 x2 λe=>v3;
(ee x1).bind λx6=>
(dO v0 x6).bind λx7=>
let x8:=w64 (x7+1);
let x9:=w64 (50*v2);
bif (x9 != 0) then let ac:Int:=(w64 (Int.tdiv v1 x9));
let ae:=Int.tmod ac 40;
let af:=w64 (x8+ae);
let ag:=w64 (v3+af);
let ah:=w64 (v5+1);
some (.inl (v0,v1,v2,ag,v4,ah,v6,v7,x5,v9,())) else none else none) else
some (.inr (v0,v1,v2,v3,v4,v5,false,v6,v7,v8,v9,()))
def m6(a0:List (Int)) (a1:Int):Option (T0n):=
((gH a0).bind λ(x0,_)=>
bif (!x0) then (some (a0,a1,true,(),0,())) else
bif decide (a1 < 0) then (some (a0,a1,true,(),0,())) else
some (a0,a1,(decide (a1 > 1073741824)),(),0,()):Option (LI×Int×Bool×Unit×Int×Unit)).bind λ(x0,x1,x2,x3,x4,_)=>
bif x2 then (some ([],0,1,())) else
let x5:=dQ x0.length;
(ee x5).bind λx6=>
(ee x5).bind λx7=>
bif (sK x6 x7 1) then let x8:List (Int):=(List.replicate x6 0);
let x9:=w64 (40503*x1);
let ac:=wk .u16 x9;
bif (x5 != 0) then let ae:Int:=(w64 (Int.tdiv x1 x5));
let af:=Int.tmod ae 50;
let ag:=w64 (1+af);
(dW sC NN (x0,x1,x5,ag,x5,0,x3,x4,x8,ac,())).bind λ(ah,ai,aj,ak,am,an,ap,aq,av,ax,ay,_)=>
some (ax,ay,0,()) else none else none
def GB:X.Cfg:=⟨E0,[oa],[],[⟨2,0,qE,[(.normal,(qS [sP 0 RI,Uaa 1,zaa 4,Xaa 21] [(10,uL [N1,CW])]))]⟩,(lx 9 1 [sP 0 RI,Uaa 1,zaa 4,Uaa 6,zaa 7,Uaa 8,Uaa 36,Uaa 37] [(10,uL [N1,CW]),(16,yaj)] 38)]⟩
def tD:Ctr:=⟨20,15,Uab,[],[⟨uL [(uaa I64),CW,I64],[.agg 2,.one],[]⟩],ap2 m6⟩
theorem yc:Lk 2 tD:=ls GB (aC rj aN)
def nS(a0:List (Int)) (a1:List (Int)) (a2:Int):Option (T0I):=
(dT 1048576 a1 a2).bind λ(x0,x1)=>
(m6 a0 x0).bind λ(x3,x4,x5,_)=>
some (x3,x4,x1)
def Ex:X.Cfg:=⟨E0,[gu,tD],[],[]⟩
def wG:Ctr:=⟨75,16,[.ptr ⟨2,0,[]⟩ [0],shU RI],[(2,Uab)],[⟨yaj,[.agg 2],[(2,Uab)]⟩],ap3 nS⟩
theorem DM:Lk 4 wG:=ls Ex (aC gT (aC yc aN))
def iM(a0:Int) (a1:Int) (a2:Int) (a3:Int):Option (Bool×Unit):=
bif (a0==0) then (bif (a2==0) then (some ((a3==0),())) else
some (false,())) else
bif (a0==2) then (bif (a2==0) then (some ((a3==0),())) else
some (false,())) else
bif (a0==1) then (bif (a2==(-1)) then (bif (a1==0) then (bif decide (a3>=0) then (some ((decide (a3<=65535)),())) else
some (false,())) else
some (false,())) else
bif (a1==0) then (bif decide (a2>=0) then (bif decide (a2 < 4) then (bif decide (a3>=0) then (some ((decide (a3 < 32)),())) else
some (false,())) else
some (false,())) else
some (false,())) else
some (false,())) else
some (false,())
def Gl:X.Cfg:=⟨E0,[],[],[]⟩
def tp:Ctr:=⟨94,17,[.agg zaf],[],[⟨zab,[.one],[]⟩],ap4 iM⟩
theorem xX:Lk 1 tp:=ls Gl aN
def g9:LDCn×Int×T0k->Option ((LDCn×Int×T0k)⊕((Bool×Unit)⊕(LDCn×Int×T0C))):=λ(v0,v1,v2,v3,v4,_)=>
bif decide (v4 < v3) then ((ee v4).bind λx0=>
(dO v2 x0).bind λx1=>
(iM x1.1 x1.2.1 x1.2.2.1 x1.2.2.2).bind λ(x2,_)=>
bif (!x2) then (some (.inr (.inl (false,())))) else
let x3:=w64 (v4+1);
some (.inl (v0,v1,v2,v3,x3,()))) else
some (.inr (.inr (v0,v1,v2,v3,v4,false,())))
def fA(a0:LDCn) (a1:Int):Option (Bool×Unit):=
let x0:=dQ a0.length;
(match dW g9 NN (a0,a1,a0,x0,0,()) with
| none=>none
| some (.inl (x1,_))=>
some (x1,())
| some (.inr (x1,x2,_))=>
let x7:=dQ x1.length;
some ((decide (x7<=x2)),()))
def D7:X.Cfg:=⟨E0,[tp],[],[⟨3,0,qS [sP 0 ej,Uaa 1,sP 7 ej,Uaa 8,Uaa 9] [],[(.ret,qS [Xaa 4] []),(.exit 0,qS [sP 0 ej,Uaa 1,sP 7 ej,Uaa 8,Uaa 9,Xaa 10] [])]⟩]⟩
def ie:Ctr:=⟨39,18,uL [ej,I64],[],[⟨zab,[.one],[]⟩],ap2 fA⟩
theorem iX:Lk 2 ie:=ls D7 (aC xX aN)
def kq:T12->Option (T12⊕((Bool×Unit)⊕(LLCn×T0T))):=λ(v0,v1,v2,v3)=>
bif decide (v2 < v1) then ((ee v2).bind λx0=>
(dO v0 x0).bind λx1=>
(fA x1 64).bind λ(x2,_)=>
bif (!x2) then (some (.inr (.inl (false,())))) else
let x3:=w64 (v2+1);
some (.inl (v0,v1,x3,v3))) else
some (.inr (.inr (v0,v1,v2,false,v3)))
def nk:LDOp×T0y->Option ((LDOp×T0y)⊕((Bool×Unit)⊕(LDOp×T0T))):=λ(v0,v1,v2,v3,v4,_)=>
bif decide (v2 < v1) then ((ee v2).bind λx0=>
(dO v0 x0).bind λx1=>
(bif (x1.1==(-1)) then (bif (x1.2.1 != 0) then (some (v0,v1,v2,true,v3,v4,x1.1,x1.2.1,x1.2.2,())) else
bif x1.2.2 then (some (v0,v1,v2,true,v3,v4,x1.1,x1.2.1,x1.2.2,())) else
bif (decide (x1.1 < (-1))) then (some (v0,v1,v2,true,v3,v4,x1.1,x1.2.1,x1.2.2,())) else
let x2:=dQ v3.length;
bif decide (x1.1>=x2) then (some (v0,v1,v2,true,v3,v4,x1.1,x1.2.1,x1.2.2,())) else
bif decide (x1.1>=0) then (bif decide (x1.2.1 < 0) then (some (v0,v1,v2,true,v3,v4,x1.1,x1.2.1,x1.2.2,())) else
(ee x1.1).bind λx3=>
(dO v3 x3).bind λx4=>
let x5:=dQ x4.length;
some (v0,v1,v2,(decide (x1.2.1 > x5)),v3,v4,x1.1,x1.2.1,x1.2.2,())) else
some (v0,v1,v2,false,v3,v4,x1.1,x1.2.1,x1.2.2,())) else
bif (decide (x1.1 < (-1))) then (some (v0,v1,v2,true,v3,v4,x1.1,x1.2.1,x1.2.2,())) else
let x2:=dQ v3.length;
bif decide (x1.1>=x2) then (some (v0,v1,v2,true,v3,v4,x1.1,x1.2.1,x1.2.2,())) else
bif decide (x1.1>=0) then (bif decide (x1.2.1 < 0) then (some (v0,v1,v2,true,v3,v4,x1.1,x1.2.1,x1.2.2,())) else
(ee x1.1).bind λx3=>
(dO v3 x3).bind λx4=>
let x5:=dQ x4.length;
some (v0,v1,v2,(decide (x1.2.1 > x5)),v3,v4,x1.1,x1.2.1,x1.2.2,())) else
some (v0,v1,v2,false,v3,v4,x1.1,x1.2.1,x1.2.2,()):Option (LDOp×Int×Int×Bool×LLCn×LDOp×T0d)).bind λ(x2,x3,x4,x5,x6,x7,_)=>
bif x5 then (some (.inr (.inl (false,())))) else
let ae:=w64 (x4+1);
some (.inl (x2,x3,ae,x6,x7,()))) else
some (.inr (.inr (v0,v1,v2,false,v3,v4,())))
def li(a0:List LDCn) (a1:LDOp):Option (Bool×Unit):=
let x0:=dQ a0.length;
bif decide (x0 > 4) then (some (false,())) else
let x1:=dQ a1.length;
bif (x1 != 8) then (some (false,())) else
let x2:=dQ a0.length;
(match dW kq NN (a0,x2,0,a0,a1,()) with
| none=>none
| some (.inl (x3,_))=>
some (x3,())
| some (.inr (x3,x4,x5,x6,x7,x8,_))=>
let x9:=dQ x8.length;
(match dW nk NN (x8,x9,0,x7,x8,()) with
| none=>none
| some (.inl (ac,_))=>
some (ac,())
| some (.inr (ac,_))=>
some (true,())))
def DX:X.Cfg:=⟨E0,[ie],[],[⟨6,0,qS [zaa 1,sP 18 (yaa ej),Uaa 19,Uaa 20] [(4,zad)],[(.ret,qS [Xaa 2] []),(.exit 0,qS [zaa 1,sP 18 (yaa ej),Uaa 19,Uaa 20,Xaa 21] [(4,zad)])]⟩,⟨20,1,qE,[(.normal,qS [zaa 1,sP 29 iK,Uaa 30,Uaa 31,Xaa 81] [(4,zad),(14,zai)])]⟩,⟨15,2,qS [zaa 1,sP 29 iK,Uaa 30,Uaa 31] [(4,zad)],[(.ret,qS [Xaa 2] []),(.exit 2,qS [zaa 1,sP 29 iK,Uaa 30,Uaa 31,Xaa 32] [(4,zad)])]⟩]⟩
def rA:Ctr:=⟨151,19,[.agg zad],[],[⟨zab,[.one],[]⟩],ap2 li⟩
theorem vz:Lk 3 rA:=ls DX (aC iX aN)
def ul:T1I->Option (T1I⊕(LLI×Int×Int×Bool×T0P)):=λ(v0,v1,v2,v3,v4,v5,v6,_)=>
bif decide (v2 < v1) then ((ee v2).bind λx0=>
(dO v6 x0).bind λx1=>
(dO v6 x0).bind λx2=>
let x3:=(List.modify v6 x0 λe=>((-1),e.2));
let x4:=w64 (v2+1);
some (.inl (v0,v1,x4,v3,v4,v5,x3,()))) else
some (.inr (v0,v1,v2,false,v3,v4,v5,v6,()))
def uk:T2C->Option (T2C⊕(LLI×Int×Int×LI×Int×Int×Bool×T15)):=λ(v0,v1,v2,v3,v4,v5,v6,v7,v8,v9,v10,_)=>
bif decide (v5 < v4) then ((ee v5).bind λx0=>
(dO v3 x0).bind λx1=>
let x2:LDCn:=[(0,(x1,(0,0)))];
bif (d9 24 v10.length x2.length) then let x3:LDCn:=(List.append v10 x2);
let x4:=w64 (v5+1);
some (.inl (v0,v1,v2,v3,v4,x4,v6,v7,v8,v9,x3,())) else none) else
some (.inr (v0,v1,v2,v3,v4,v5,false,v6,v7,v8,v9,v10,()))
def uj:T1H->Option (T1H⊕(LLI×T1w)):=λ(v0,v1,v2,v3,v4,v5,v6,_)=>
bif decide (v2 < v1) then ((ee v2).bind λx0=>
(dO v0 x0).bind λx1=>
let x2:=dQ x1.length;
(dW uk NN (v0,v1,v2,x1,x2,0,v3,v4,v5,v6,[],())).bind λ(x3,x4,x5,x6,x7,x8,x9,ac,ae,af,ag,ah,_)=>
bif (d9 24 af.length (List.length [ah])) then let ai:List LDCn:=(List.append af [ah]);
let aj:=w64 (x5+1);
some (.inl (x3,x4,aj,ac,ae,ai,ag,())) else none) else
some (.inr (v0,v1,v2,false,v3,v4,v5,v6,()))
def qQ(a0:List LI):Option (LLCn×LDOp×Int×Unit):=
bif (sK 8 8 3) then let x0:LDOp:=(List.replicate 8 (0,(0,false)));
let x1:=dQ x0.length;
(dW ul NN (a0,x1,0,(),(),(),x0,())).bind λ(x2,x3,x4,x5,x6,x7,x8,x9,_)=>
let ac:=dQ x2.length;
(dW uj NN (x2,ac,0,x6,x7,[],x9,())).bind λ(ae,af,ag,ah,ai,aj,ak,am,_)=>
(li ak am).bind λ(an,_)=>
bif (!an) then (some ([],[],3,())) else
some (ak,am,0,()) else none
def H8:X.Cfg:=⟨E0,[rA],[(46,(uaa KCn)),(47,(uaa KCn))],[(lx 4 0 [sP 0 (yaa RW),zaa 2,zaa 4,Uaa 15,Uaa 16] [(6,Xab),(10,uL [N1,(uaa KOp)])] 17),⟨19,1,qS [zaa 2,zaa 4,Zaa 8 19,sP 25 (yaa RW),Uaa 26,Uaa 27,sP 31 RW,Uaa 32,Uaa 33] [(6,Xab),(10,Xae),(19,Xag)],[(.exit 4,qS [zaa 2,zaa 4,Zaa 8 19,sP 25 (yaa RW),Uaa 26,Uaa 27,sP 31 RW,Uaa 32,Uaa 33,Xaa 34] [(6,Xab),(10,Xae),(19,Xag)])]⟩,⟨11,2,qS [zaa 2,zaa 4,sP 25 (yaa RW),Uaa 26,Uaa 27] [(6,Xab),(10,Xae)],[(.exit 2,qS [zaa 2,zaa 4,sP 25 (yaa RW),Uaa 26,Uaa 27,Xaa 28] [(6,Xab),(10,Xae)])]⟩]⟩
def A4:Ctr:=⟨156,20,uL [(yaa RW)],[],[⟨Uak,[.agg 2,.one],[]⟩],ap1 qQ⟩
theorem HS:Lk 4 A4:=ls H8 (aC vz aN)
def f8:LLI×Int×Int×LLI×Unit->Option ((LLI×Int×Int×LLI×Unit)⊕(LLI×Int×Int×Bool×LLI×Unit)):=λ(v0,v1,v2,v3,_)=>
bif decide (v2 < v1) then ((ee v2).bind λx0=>
(dO v0 x0).bind λx1=>
bif (d9 2 0 x1.length) then let x2:List (Int):=(List.append [] x1);
bif (d9 24 v3.length (List.length [x2])) then let x3:List LI:=(List.append v3 [x2]);
let x4:=w64 (v2+1);
some (.inl (v0,v1,x4,x3,())) else none else none) else
some (.inr (v0,v1,v2,false,v3,()))
def gk(a0:List LI):Option (LLI×Unit):=
let x0:=dQ a0.length;
(dW f8 NN (a0,x0,0,[],())).bind λ(x1,x2,x3,x4,x5,_)=>
some (x5,())
def vO:X.Cfg:=⟨E0,[],[(15,(uaa CW)),(16,(uaa CW))],[(lx 4 0 [Zaa 3 9,sP 6 (yaa RW),Uaa 7,Uaa 8] [(9,Uai)] 9)]⟩
def jk:Ctr:=⟨153,21,uL [(yaa RW)],[],[⟨Uai,[.one],[]⟩],ap1 gk⟩
theorem lO:Lk 1 jk:=ls vO aN
def jh:LDOu×T02->Option ((LDOu×T02)⊕((Bool×Unit)⊕(LDOu×T0d))):=λ(v0,v1,v2,_)=>
bif decide (v2 < v1) then ((ee v2).bind λx0=>
(dO v0 x0).bind λx1=>
(bif (x1.1 != v2) then (some (v0,v1,v2,true,())) else
bif decide (x1.2.1 < 0) then (some (v0,v1,v2,true,())) else
bif decide (x1.2.1>=2) then (some (v0,v1,v2,true,())) else
let x2:=dQ x1.2.2.length;
some (v0,v1,v2,(decide (x2 > 16)),()):Option (LDOu×T0d)).bind λ(x2,x3,x4,x5,_)=>
bif x5 then (some (.inr (.inl (false,())))) else
let x6:=w64 (x4+1);
some (.inl (x2,x3,x6,()))) else
some (.inr (.inr (v0,v1,v2,false,())))
def lh(a0:LDOu):Option (Bool×Unit):=
let x0:=dQ a0.length;
(match dW jh NN (a0,x0,0,()) with
| none=>none
| some (.inl (x1,_))=>
some (x1,())
| some (.inr (x1,_))=>
some (true,()))
def AA:X.Cfg:=⟨E0,[],[],[⟨8,0,qE,[(.normal,qS [sP 5 j5,Uaa 6,Uaa 7,Xaa 31] [])]⟩,⟨3,1,qS [sP 5 j5,Uaa 6,Uaa 7] [],[(.ret,qS [Xaa 2] []),(.exit 0,qS [sP 5 j5,Uaa 6,Uaa 7,Xaa 8] [])]⟩]⟩
def td:Ctr:=⟨152,22,uL [j5],[],[⟨zab,[.one],[]⟩],ap1 lh⟩
theorem Ai:Lk 1 td:=ls AA aN
def kp:T2f->Option (T2f⊕((Bool×Unit)⊕(LLI×T1X))):=λ(v0,v1,v2,v3)=>
bif decide (v2 < v1) then ((ee v2).bind λx0=>
(dO v0 x0).bind λx1=>
let x2:=dQ x1.length;
bif decide (x2 > 64) then (some (.inr (.inl (false,())))) else
let x3:=w64 (v2+1);
some (.inl (v0,v1,x3,v3))) else
some (.inr (.inr (v0,v1,v2,false,v3)))
def ko:T28->Option (T28⊕((Bool×Unit)⊕(LDOu×T1X))):=λ(v0,v1,v2,v3)=>
bif decide (v2 < v1) then ((ee v2).bind λx0=>
(dO v0 x0).bind λx1=>
(fA x1.2.2 16).bind λ(x2,_)=>
bif (!x2) then (some (.inr (.inl (false,())))) else
let x3:=w64 (v2+1);
some (.inl (v0,v1,x3,v3))) else
some (.inr (.inr (v0,v1,v2,false,v3)))
def jK(a0:List (Int)) (a1:List (Int)) (a2:List LI) (a3:List LDCn) (a4:LDOp) (a5:LDOu):Option (Bool×Unit):=
let x0:=dQ a2.length;
(match dW kp NN (a2,x0,0,a0,a1,a2,a3,a4,a5,()) with
| none=>none
| some (.inl (x1,_))=>
some (x1,())
| some (.inr (x1,x2,x3,x4,x5,x6,x7,x8,x9,ac,_))=>
let ae:=dQ ac.length;
(match dW ko NN (ac,ae,0,x5,x6,x7,x8,x9,ac,()) with
| none=>none
| some (.inl (af,_))=>
some (af,())
| some (.inr (af,ag,ah,ai,aj,ak,am,an,ap,aq,_))=>
let av:=dQ aj.length;
bif decide (av<=64) then (let ax:Int:=(dQ ak.length);
bif decide (ax<=64) then (let ay:Int:=(dQ am.length);
bif decide (ay<=2) then ((li an ap).bind λ(az,_)=>
bif az then (let aA:Int:=(dQ aq.length);
bif decide (aA<=200) then ((lh aq).bind λ(aB,_)=>
some (aB,())) else
some (false,())) else
some (false,())) else
some (false,())) else
some (false,())) else
some (false,())))
def DU:X.Cfg:=⟨E0,[ie,rA,td],[],[⟨3,0,qS [zaa 1,sP 8 (yaa RW),Uaa 9,Uaa 10] [(4,zag)],[(.ret,qS [Xaa 2] []),(.exit 0,qS [zaa 1,sP 8 (yaa RW),Uaa 9,Uaa 10,Xaa 11] [(4,zag)])]⟩,⟨12,1,qS [zaa 1,sP 19 j5,Uaa 20,Uaa 21] [(4,zag)],[(.ret,qS [Xaa 2] []),(.exit 2,qS [zaa 1,sP 19 j5,Uaa 20,Uaa 21,Xaa 22] [(4,zag)])]⟩]⟩
def n5:Ctr:=⟨121,23,[.agg zag],[],[⟨zab,[.one],[]⟩],ap6 jK⟩
theorem rd:Lk 4 n5:=ls DU (aC iX (aC vz (aC Ai aN)))
def qP(a0:List LI) (a1:List LI) (a2:List (Int)) (a3:List (Int)):Option (LI×LI×LLI×LLCn×LDOp×Unit×Int×Unit):=
(qQ a0).bind λ(x0,x1,x2,_)=>
bif (x2 != 0) then (some ([],[],[],[],[],(),x2,())) else
bif (d9 2 0 a2.length) then let x3:List (Int):=(List.append [] a2);
bif (d9 2 0 a3.length) then let x4:List (Int):=(List.append [] a3);
(gk a1).bind λ(x5,_)=>
(jK x3 x4 x5 x0 x1 []).bind λ(x6,_)=>
bif (!x6) then (some ([],[],[],[],[],(),3,())) else
some (x3,x4,x5,x0,x1,(),0,()) else none else none
def DV:X.Cfg:=⟨E0,[A4,jk,n5],[],[]⟩
def we:Ctr:=⟨125,24,uL [(yaa RW),(yaa RW),RW,RW],[],[⟨uL [RW,RW,(yaa RW),(yaa ej),iK,N1,I64],[.agg 6,.one],[]⟩],ap4 qP⟩
theorem Dq:Lk 5 we:=ls DV (aC HS (aC lO (aC rd aN)))
def mK(a0:List (Int)) (a1:Int):Option (LI×LI×LLI×LLCn×LDOp×Unit×T07):=
(gJ 5 a0 a1).bind λ(x0,x1,x2,_)=>
(gJ 3 x1 x2).bind λ(x3,x4,x5,_)=>
let x6:List LI:=[x0,x3];
(gJ 8 x4 x5).bind λ(x7,x8,x9,_)=>
(gJ 4 x8 x9).bind λ(ac,ae,af,_)=>
let ag:List LI:=[x7,ac];
(gJ 5 ae af).bind λ(ah,ai,aj,_)=>
(gJ 5 ai aj).bind λ(ak,am)=>
(qP x6 ag ah ak).bind λ(ap,aq,av,ax,ay,az,aA,_)=>
some (ap,aq,av,ax,ay,az,am)
def B2:X.Cfg:=⟨E0,[tH,we],[(10,(uaa CW)),(15,(uaa CW))],[]⟩
def uJ:Ctr:=⟨76,25,[.ptr ⟨2,0,[]⟩ [0]],[(2,Uab)],[⟨uL [RW,RW,(yaa RW),(yaa ej),iK,N1],[.agg 6],[(2,Uab)]⟩],ap2 mK⟩
theorem BD:Lk 6 uJ:=ls B2 (aC ye (aC Dq aN))
def kz:T2G->Option (T2G⊕((Bool×Unit)⊕T2Q)):=λ(v0,v1,v2,v3,v4,v5,v6,v7,v8,v9,v10,v11,_)=>
bif decide (v1 < v0) then ((ee v1).bind λx0=>
(dO v11 x0).bind λx1=>
(dO v11 x0).bind λx2=>
(bif decide (x2 < 0) then (some (v0,v1,true,v2,v3,v4,v5,v6,v7,v8,v9,v10,v11,())) else
bif decide (x2>=8) then (some (v0,v1,true,v2,v3,v4,v5,v6,v7,v8,v9,v10,v11,())) else
(ee v1).bind λx3=>
bif (Nat.beq x3 0) then (bif (!v7) then (some (v0,v1,(x2 != 0),v2,v3,v4,v5,v6,v7,v8,v9,v10,v11,())) else
some (v0,v1,false,v2,v3,v4,v5,v6,v7,v8,v9,v10,v11,())) else
bif (Nat.beq x3 1) then (bif (!v8) then (some (v0,v1,(x2 != 0),v2,v3,v4,v5,v6,v7,v8,v9,v10,v11,())) else
some (v0,v1,false,v2,v3,v4,v5,v6,v7,v8,v9,v10,v11,())) else
bif (Nat.beq x3 2) then (bif (!v9) then (some (v0,v1,(x2 != 0),v2,v3,v4,v5,v6,v7,v8,v9,v10,v11,())) else
some (v0,v1,false,v2,v3,v4,v5,v6,v7,v8,v9,v10,v11,())) else
bif (Nat.beq x3 3) then bif (!v10) then (some (v0,v1,(x2 != 0),v2,v3,v4,v5,v6,v7,v8,v9,v10,v11,())) else
some (v0,v1,false,v2,v3,v4,v5,v6,v7,v8,v9,v10,v11,()) else none:Option (T2Q)).bind λ(x3,x4,x5,x6)=>
bif x5 then (some (.inr (.inl (false,())))) else
let aj:=w64 (x4+1);
some (.inl (x3,aj,x6))) else
some (.inr (.inr (v0,v1,false,v2,v3,v4,v5,v6,v7,v8,v9,v10,v11,())))
def nM(a0:Int) (a1:Int) (a2:Int) (a3:Int) (a4:Int):Option (Bool×Unit):=
bif decide (a0 < 0) then (some (false,())) else
bif decide (a0 > 24) then (some (false,())) else
(jw a0).bind λ(x0,x1,x2,x3,_)=>
let x4:List (Int):=[a1,a2,a3];
let x5:=dQ x4.length;
(match dW kz NN (x5,0,a0,a1,a2,a3,a4,x0,x1,x2,x3,x4,()) with
| none=>none
| some (.inl (x6,_))=>
some (x6,())
| some (.inr (x6,x7,x8,x9,ac,ae,af,ag,ah,ai,aj,ak,am,_))=>
(bif decide (ag < 0) then (some (true,x9,ac,ae,af,ag,())) else
bif decide (ag > 65535) then (some (true,x9,ac,ae,af,ag,())) else
bif (!ak) then (some ((ag != 0),x9,ac,ae,af,ag,())) else
some (false,x9,ac,ae,af,ag,()):Option (Bool×T0U)).bind λ(an,ap,aq,av,ax,ay,_)=>
bif an then (some (false,())) else
(hZ ap).bind λ(az,_)=>
bif az then (some ((decide (ay < 64)),())) else
bif (ap==15) then (some ((decide (ay < 4)),())) else
bif (ap==23) then (some ((decide (ay<=15)),())) else
some (true,()))
def Eg:X.Cfg:=⟨E0,[tA,kS],[],[⟨12,0,qE,[(.normal,qS [zaa 1,zaa 3,Zaa 23 49,Uaa 24,Uaa 25,Xaa 45] [(4,Uad),(8,yag),(49,yae)])]⟩,⟨7,1,qS [zaa 1,zaa 3,Zaa 23 49,Uaa 24,Uaa 25] [(4,Uad),(8,yag),(49,yae)],[(.ret,qS [Xaa 2] []),(.exit 0,qS [zaa 1,zaa 3,Zaa 23 49,Uaa 24,Uaa 25,Xaa 26] [(4,Uad),(8,yag),(49,yae)])]⟩,⟨15,2,qE,[(.normal,qS [zaa 1,Xaa 64] [(4,Uad)])]⟩]⟩
def wy:Ctr:=⟨98,26,[.agg Uad],[],[⟨zab,[.one],[]⟩],ap5 nM⟩
theorem DD:Lk 2 wy:=ls Eg (aC ya (aC nc aN))
def ky:T1s->Option (T1s⊕((Int×Unit)⊕T1G)):=λ(v0,v1,v2,v3,v4,v5,_)=>
bif decide (v2 < v1) then ((ee v2).bind λx0=>
(dO v0 x0).bind λx1=>
let x2:=dQ x1.length;
(ee v2).bind λx3=>
(dO v4 x3).bind λx4=>
bif decide (x2 > x4) then (some (.inr (.inl (1,())))) else
let x5:=w64 (v2+1);
some (.inl (v0,v1,x5,v3,v4,v5,()))) else
some (.inr (.inr (v0,v1,v2,false,v3,v4,v5,())))
def kx:T1i->Option (T1i⊕((Int×Unit)⊕T1F)):=λ(v0,v1,v2,v3)=>
bif decide (v2 < v1) then ((ee v2).bind λx0=>
(dO v0 x0).bind λx1=>
(nM x1.1 x1.2.1 x1.2.2.1 x1.2.2.2.1 x1.2.2.2.2).bind λ(x2,_)=>
bif (!x2) then (some (.inr (.inl (5,())))) else
let x3:=w64 (v2+1);
some (.inl (v0,v1,x3,v3))) else
some (.inr (.inr (v0,v1,v2,false,v3)))
def kv:T1i->Option (T1i⊕((Int×Unit)⊕T1F)):=λ(v0,v1,v2,v3,v4,v5,_)=>
bif decide (v2 < v1) then ((ee v2).bind λx0=>
(dO v0 x0).bind λx1=>
((hZ x1.1).bind λ(x2,_)=>
bif x2 then (let x3:Int:=(dQ v3.length);
bif decide (x1.2.2.2.2>=x3) then (some (v0,v1,v2,true,v3,v4,v5,())) else
bif (x1.1==15) then (let x4:Int:=(dQ v4.length);
some (v0,v1,v2,(decide (x1.2.2.2.2>=x4)),v3,v4,v5,())) else
some (v0,v1,v2,false,v3,v4,v5,())) else
bif (x1.1==15) then (let x3:Int:=(dQ v4.length);
some (v0,v1,v2,(decide (x1.2.2.2.2>=x3)),v3,v4,v5,())) else
some (v0,v1,v2,false,v3,v4,v5,()):Option (T1F)).bind λ(x2,x3,x4,x5,x6)=>
bif x5 then (some (.inr (.inl (6,())))) else
let x9:=w64 (x4+1);
some (.inl (x2,x3,x9,x6))) else
some (.inr (.inr (v0,v1,v2,false,v3,v4,v5,())))
def iQ(a0:LDIn) (a1:List (Int)) (a2:List LI):Option (Int×Unit):=
(gH a1).bind λ(x0,_)=>
bif (!x0) then (some (1,())) else
let x1:=dQ a2.length;
let x2:=dQ a1.length;
bif (x1 != x2) then (some (1,())) else
let x3:=dQ a2.length;
(match dW ky NN (a2,x3,0,a0,a1,a2,()) with
| none=>none
| some (.inl (x4,_))=>
some (x4,())
| some (.inr (x4,x5,x6,x7,x8,x9))=>
let ae:=dQ x8.length;
bif decide (ae < 1) then (some (3,())) else
let af:=dQ x8.length;
bif decide (af > 64) then (some (3,())) else
let ag:=dQ x8.length;
(match dW kx NN (x8,ag,0,x8,x9) with
| none=>none
| some (.inl (ah,_))=>
some (ah,())
| some (.inr (ah,ai,aj,ak,am,an))=>
let aq:=dQ am.length;
(match dW kv NN (am,aq,0,am,an) with
| none=>none
| some (.inl (av,_))=>
some (av,())
| some (.inr (av,_))=>
some (0,()))))
def Ef:X.Cfg:=⟨E0,[oa,wy,kS],[],[⟨6,0,qS [zaa 1,sP 23 (yaa RW),Uaa 24,Uaa 25] [(4,uab)],[(.ret,qS [Uaa 2] []),(.exit 0,qS [zaa 1,sP 23 (yaa RW),Uaa 24,Uaa 25,Xaa 26] [(4,uab)])]⟩,⟨18,1,qS [zaa 1,sP 50 ff,Uaa 51,Uaa 52] [(4,uab)],[(.ret,qS [Uaa 2] []),(.exit 2,qS [zaa 1,sP 50 ff,Uaa 51,Uaa 52,Xaa 53] [(4,uab)])]⟩,⟨32,2,qE,[(.normal,qS [zaa 1,sP 61 ff,Uaa 62,Uaa 63,Xaa 90] [(4,uab)])]⟩,⟨27,3,qS [zaa 1,sP 61 ff,Uaa 62,Uaa 63] [(4,uab)],[(.ret,qS [Uaa 2] []),(.exit 4,qS [zaa 1,sP 61 ff,Uaa 62,Uaa 63,Xaa 64] [(4,uab)])]⟩]⟩
def n8:Ctr:=⟨45,27,[.agg uab],[],[⟨Uac,[.one],[]⟩],ap3 iQ⟩
theorem rh:Lk 3 n8:=ls Ef (aC rj (aC DD (aC nc aN)))
def fO:T2B->Option (T2B⊕((Bool×Unit)⊕T2O)):=λ(v0,v1,v2,v3,v4,v5,v6,v7,v8,v9)=>
bif decide (v8 < v7) then ((match ((ee v8).bind λx0=>
(dO v6 x0).bind λx1=>
(ee v1).bind λx2=>
(dO v0 x2).bind λx3=>
let x4:=w64 (v2+x3);
bif decide (x4>=x1) then ((ee v8).bind λx5=>
(dO v0 x5).bind λx6=>
let x7:=w64 (x1+x6);
bif decide (x7>=v2) then (some (.inl (false,()))) else
some (.inr (v0,v1,v2,v3,v4,v5,v6,v7,v8,false,v9))) else
some (.inr (v0,v1,v2,v3,v4,v5,v6,v7,v8,false,v9)):Option ((Bool×Unit)⊕T2O)) with
| none=>none
| some (.inl (x0,_))=>
some (.inr (.inl (x0,())))
| some (.inr (x0,x1,x2,x3,x4,x5,x6,x7,x8,x9,ac))=>
let af:=w64 (x8+1);
some (.inl (x0,x1,x2,x3,x4,x5,x6,x7,af,ac)))) else
some (.inr (.inr (v0,v1,v2,v3,v4,v5,v6,v7,v8,false,v9)))
def fN:T1m->Option (T1m⊕((Bool×Unit)⊕(LI×T1k))):=λ(v0,v1,v2,v3,v4,v5,_)=>
bif decide (v3 < v2) then ((ee v3).bind λx0=>
(dO v1 x0).bind λx1=>
bif decide (x1 < 0) then (some (.inr (.inl (false,())))) else
(ee v3).bind λx2=>
(dO v0 x2).bind λx3=>
let x4:=w64 (512 - x3);
bif decide (x1 > x4) then (some (.inr (.inl (false,())))) else
(ee v3).bind λx5=>
bif (ir 0 x5 v4.length) then let x6:List (Int):=(kU v4 0 (Nat.sub x5 0));
let x7:=dQ x6.length;
(match dW fO NN (v0,v3,x1,v1,v2,v3,x6,x7,0,v4,v5,()) with
| none=>none
| some (.inl (x8,_))=>
some (.inr (.inl (x8,())))
| some (.inr (x8,x9,ac,ae,af,ag,ah,ai,aj,ak,am))=>
let ap:=w64 (ag+1);
some (.inl (x8,ae,af,ap,am))) else none) else
some (.inr (.inr (v0,v1,v2,v3,false,v4,v5,())))
def gG(a0:List (Int)) (a1:Int) (a2:List (Int)):Option (Bool×Unit):=
(gH a2).bind λ(x0,_)=>
bif (!x0) then (some (false,())) else
let x1:=dQ a0.length;
let x2:=dQ a2.length;
bif (x1 != x2) then (some (false,())) else
let x3:=dQ a0.length;
(match dW fN NN (a2,a0,x3,0,a0,a1,()) with
| none=>none
| some (.inl (x4,_))=>
some (x4,())
| some (.inr (x4,_))=>
some (true,()))
def El:X.Cfg:=⟨E0,[oa],[],[⟨18,0,qE,[(.ret,qS [Xaa 4] []),(.normal,qS [sP 1 RI,zaa 2,Uaa 5,Uaa 6,sP 21 RI,Uaa 22,Uaa 23,sP 42 RI,Uaa 43,Uaa 44,Xaa 66] [(6,yab)])]⟩,⟨15,1,qS [sP 1 RI,zaa 2,Uaa 5,Uaa 6,sP 21 RI,Uaa 22,Uaa 23,sP 42 RI,Uaa 43,Uaa 44] [(6,yab)],[(.ret,qS [Xaa 4] []),(.exit 2,qS [sP 1 RI,zaa 2,Uaa 5,Uaa 6,sP 21 RI,Uaa 22,Uaa 23,sP 42 RI,Uaa 43,Uaa 44,Xaa 45] [(6,yab)])]⟩,⟨6,2,qS [sP 1 RI,zaa 2,sP 21 RI,Uaa 22,Uaa 23] [(6,yab)],[(.ret,qS [Xaa 4] []),(.exit 0,qS [sP 1 RI,zaa 2,sP 21 RI,Uaa 22,Uaa 23,Xaa 24] [(6,yab)])]⟩]⟩
def lY:Ctr:=⟨65,28,[.agg yab,shU RI],[],[⟨zab,[.one],[]⟩],ap3 gG⟩
theorem nX:Lk 2 lY:=ls El (aC rj aN)
def yR:T0f->Option (T0f⊕(Int×Int×Bool×LDLn×Unit)):=λ(v0,v1,v2,_)=>
bif decide (v1 < v0) then ((ee v1).bind λx0=>
(dO v2 x0).bind λx1=>
(dO v2 x0).bind λx2=>
let x3:=(List.modify v2 x0 λe=>((-1),e.2));
let x4:=w64 (v1+1);
some (.inl (v0,x4,x3,()))) else
some (.inr (v0,v1,false,v2,()))
def nO:Option (LDLn×Unit):=
bif (sK 4 4 3) then let x0:LDLn:=(List.replicate 4 (0,(false,[])));
let x1:=dQ x0.length;
(dW yR NN (x1,0,x0,())).bind λ(x2,x3,x4,x5,_)=>
some (x5,()) else none
def Ek:X.Cfg:=⟨E0,[],[(3,Ss)],[(lx 4 0 [Zaa 1 5,Uaa 5,Uaa 6] [(5,uL [jG])] 7)]⟩
def rG:Ctr:=⟨67,29,[],[],[⟨uL [jG],[.one],[]⟩],λh=>nO⟩
theorem vG:Lk 1 rG:=ls Ek aN
def sB:T33->Option (T33⊕(Int×LLI×Int×Int×LI×T2F)):=λ(v0,v1,v2,v3,v4,v5,v6,v7,v8,v9,v10,v11,v12,v13,v14,v15,_)=>
bif decide (v6 < v5) then ((ee v6).bind λx0=>
(dO v4 x0).bind λx1=>
(ee v0).bind λx2=>
(dO v10 x2).bind λx3=>
let x4:=w64 (x3+v6);
(ee x4).bind λx5=>
(dO v14 x5).bind λx6=>
(dO v14 x5).bind λx7=>
let x8:=List.modify v14 x5 λe=>(e.1,x1);
let x9:=w64 (v6+1);
some (.inl (v0,v1,v2,v3,v4,v5,x9,v7,v8,v9,v10,v11,v12,v13,x8,v15,()))) else
some (.inr (v0,v1,v2,v3,v4,v5,v6,false,v7,v8,v9,v10,v11,v12,v13,v14,v15,()))
def ox:T2P->Option (T2P⊕((Int×T0b)⊕(LLI×T2F))):=λ(v0,v1,v2,v3,v4,v5)=>
bif decide (v2 < v1) then ((ee v2).bind λx0=>
(dO v0 x0).bind λx1=>
let x2:=dQ x1.length;
(ee v2).bind λx3=>
(dO v4 x3).bind λx4=>
bif decide (x2 > x4) then (some (.inr (.inl (1,(),(),())))) else
let x5:=dQ x1.length;
(dW sB NN (v2,v0,v1,v2,x1,x5,0,v3,v4,v5)).bind λ(x6,x7,x8,x9,ac,ae,af,ag,ah)=>
let ax:=w64 (x9+1);
some (.inl (x7,x8,ax,ah))) else
some (.inr (.inr (v0,v1,v2,false,v3,v4,v5)))
def pq(a0:LDIn) (a1:List (Int)) (a2:List LI) (a3:List (Int)) (a4:Int):Option (LDCe×LDLn×Int×Unit):=
(gG a3 a4 a1).bind λ(x0,_)=>
bif (!x0) then (some ([],[],1,())) else
let x1:=dQ a2.length;
let x2:=dQ a1.length;
bif (x1 != x2) then (some ([],[],1,())) else
bif (sK 512 512 2) then let x3:LDCe:=(List.replicate 512 (0,0));
(nO).bind λ(x4,_)=>
let x5:=dQ a2.length;
(match dW ox NN (a2,x5,0,a0,a1,a2,a3,a4,(),(),x3,x4,()) with
| none=>none
| some (.inl (x6,x7,x8,_))=>
some ([],[],x6,())
| some (.inr (x6,x7,x8,x9,ac,ae,af,ag,ah,ai,aj,ak,am,_))=>
some (ak,am,0,())) else none
def Gy:X.Cfg:=⟨E0,[lY,rG],[],[⟨16,0,qS [zaa 2,zaa 3,zaa 4,zaa 6,Uaa 7,sP 30 (yaa RW),Uaa 31,Uaa 32,sP 46 RW,Uaa 47,Uaa 48] [(6,uab),(8,yab),(10,Xab),(14,Uaf)],[(.exit 2,qS [zaa 2,zaa 3,zaa 4,zaa 6,Uaa 7,sP 30 (yaa RW),Uaa 31,Uaa 32,sP 46 RW,Uaa 47,Uaa 48,Xaa 49] [(6,uab),(8,yab),(10,Xab),(14,Uaf)])]⟩,⟨7,1,qS [zaa 2,zaa 3,zaa 4,zaa 6,sP 30 (yaa RW),Uaa 31,Uaa 32] [(6,uab),(8,yab),(10,Xab),(14,Uaf)],[(.ret,qS [zaa 4,Uaa 5] [(10,Xab)]),(.exit 0,qS [zaa 2,zaa 3,zaa 4,zaa 6,sP 30 (yaa RW),Uaa 31,Uaa 32,Xaa 33] [(6,uab),(8,yab),(10,Xab),(14,Uaf)])]⟩]⟩
def yD:Ctr:=⟨150,30,[.agg uab,.agg yab],[],[⟨uL [(uaa KCe),jG,I64],[.agg 2,.one],[]⟩],ap5 pq⟩
theorem FO:Lk 3 yD:=ls Gy (aC nX (aC vG aN))
def rU:T2w->Option (T2w⊕T2E):=λ(v0,v1,v2,v3,v4,v5,v6,v7,v8,v9,v10,_)=>
bif decide (v0 < 4) then (bif (sK 8 8 2) then let x0:LDCe:=(List.replicate 8 (0,0));
(bif (v0==0) then (some (v0,v1,v2,v3,v4,v5,v6,v7,v8,v9,v10,1,x0,0,0,(-1),(-1),0,0,())) else
some (v0,v1,v2,v3,v4,v5,v6,v7,v8,v9,v10,0,x0,0,0,(-1),(-1),0,0,()):Option (Int×Unit×Int×Unit×Unit×Unit×T2T)).bind λ(x1,x2,x3,x4,x5,x6,x7,x8,x9,ac,ae,af,ag,ah,ai,aj,ak,am,an,_)=>
let ap:LDTh:=[(af,(ag,(ah,(ai,(aj,(ak,(am,an)))))))];
bif (d9 80 ae.length ap.length) then let aq:LDTh:=(List.append ae ap);
let av:=w64 (x1+1);
some (.inl (av,x2,x3,x4,x5,x6,x7,x8,x9,ac,aq,())) else none else none) else
some (.inr (v0,false,v1,v2,v3,v4,v5,v6,v7,v8,v9,v10,()))
def nL(a0:LDIn) (a1:List (Int)) (a2:List LI) (a3:List (Int)) (a4:Int):Option (LI×Int×LDCe×LDLn×LDTh×Int×Unit):=
(iQ a0 a1 a2).bind λ(x0,_)=>
bif (x0 != 0) then (some ([],0,[],[],[],x0,())) else
(gG a3 a4 a1).bind λ(x1,_)=>
bif (!x1) then (some ([],0,[],[],[],1,())) else
(pq a0 a1 a2 a3 a4).bind λ(x2,x3,x4,_)=>
bif (d9 8 0 a3.length) then let x5:List (Int):=(List.append [] a3);
(dW rU NN (0,(),0,(),(),(),x5,a4,x2,x3,[],())).bind λ(x6,x7,x8,x9,ac,ae,af,ag,ah,ai,aj,ak,_)=>
some (ag,ah,ai,aj,ak,0,()) else none
def Ee:X.Cfg:=⟨E0,[n8,lY,yD],[(49,Ps),(50,Ps)],[⟨18,0,qE,[(.normal,qS [zaa 4,zaa 9,zaa 11,Uaa 38] [(10,Zab),(20,Xak),(24,Zaf)])]⟩,(lx 12 1 [zaa 4,zaa 9,Uaa 38] [(10,Zab),(20,Xak)] 39)]⟩
def ww:Ctr:=⟨120,31,[.agg uab,.agg yab],[],[⟨uL [RI,CW,fq,fV,p9,I64],[.agg 5,.one],[]⟩],ap5 nL⟩
theorem DC:Lk 4 ww:=ls Ee (aC rh (aC nX (aC FO aN)))
def fR(a0:List (Int)) (a1:Int) (a2:Int):Option (Bool×Unit):=
bif decide (a1>=0) then (let x0:Int:=(dQ a0.length);
bif decide (a1 < x0) then (bif decide (a2>=0) then ((ee a1).bind λx1=>
(dO a0 x1).bind λx2=>
some ((decide (a2 < x2)),())) else
some (false,())) else
some (false,())) else
some (false,())
def BT:X.Cfg:=⟨E0,[],[],[]⟩
def kj:Ctr:=⟨111,32,[shU RI,.agg uad],[],[⟨zab,[.one],[]⟩],ap3 fR⟩
theorem mQ:Lk 1 kj:=ls BT aN
def fQ(a0:List (Int)) (a1:Int) (a2:Int) (a3:Int) (a4:Int):Option (Bool×Unit):=
bif (a1==0) then (bif (a3==0) then (some ((a4==0),())) else
some (false,())) else
bif (a1==2) then (bif (a3==0) then (some ((a4==0),())) else
some (false,())) else
bif (a1==1) then (bif (a2==0) then ((fR a0 a3 a4).bind λ(x0,_)=>
some (x0,())) else
some (false,())) else
some (false,())
def BS:X.Cfg:=⟨E0,[kj],[],[]⟩
def ki:Ctr:=⟨66,33,[shU RI,.agg zaf],[],[⟨zab,[.one],[]⟩],ap5 fQ⟩
theorem mP:Lk 2 ki:=ls BS (aC mQ aN)
def jJ:T2c->Option (T2c⊕((Bool×Unit)⊕(LI×LLCn×Int×Int×LDCn×T0T))):=λ(v0,v1,v2,v3,v4,v5,v6,v7)=>
bif decide (v6 < v5) then ((ee v6).bind λx0=>
(dO v4 x0).bind λx1=>
(fQ v0 x1.1 x1.2.1 x1.2.2.1 x1.2.2.2).bind λ(x2,_)=>
bif (!x2) then (some (.inr (.inl (false,())))) else
let x3:=w64 (v6+1);
some (.inl (v0,v1,v2,v3,v4,v5,x3,v7))) else
some (.inr (.inr (v0,v1,v2,v3,v4,v5,v6,false,v7)))
def jI:LI×T12->Option ((LI×T12)⊕((Bool×Unit)⊕(LI×LLCn×T0T))):=λ(v0,v1,v2,v3,v4)=>
bif decide (v3 < v2) then ((ee v3).bind λx0=>
(dO v1 x0).bind λx1=>
let x2:=dQ x1.length;
(match dW jJ NN (v0,v1,v2,v3,x1,x2,0,v4) with
| none=>none
| some (.inl (x3,_))=>
some (.inr (.inl (x3,())))
| some (.inr (x3,x4,x5,x6,x7,x8,x9,ac,ae))=>
let ag:=w64 (x6+1);
some (.inl (x3,x4,x5,ag,ae)))) else
some (.inr (.inr (v0,v1,v2,v3,false,v4)))
def mB(a0:List (Int)) (a1:List LDCn) (a2:LDOp):Option (Bool×Unit):=
let x0:=dQ a1.length;
(match dW jI NN (a0,a1,x0,0,a1,a2,()) with
| none=>none
| some (.inl (x1,_))=>
some (x1,())
| some (.inr (x1,_))=>
some (true,()))
def BJ:X.Cfg:=⟨E0,[ki],[],[⟨9,0,qS [sP 0 RI,sP 10 (yaa ej),Uaa 11,Uaa 12,sP 16 ej,Uaa 17,Uaa 18] [(8,zad)],[(.ret,qS [Xaa 4] []),(.exit 2,qS [sP 0 RI,sP 10 (yaa ej),Uaa 11,Uaa 12,sP 16 ej,Uaa 17,Uaa 18,Xaa 19] [(8,zad)])]⟩,⟨3,1,qS [sP 0 RI,sP 10 (yaa ej),Uaa 11,Uaa 12] [(8,zad)],[(.ret,qS [Xaa 4] []),(.exit 0,qS [sP 0 RI,sP 10 (yaa ej),Uaa 11,Uaa 12,Xaa 13] [(8,zad)])]⟩]⟩
def ux:Ctr:=⟨122,34,[shU RI,.agg zad],[],[⟨zab,[.one],[]⟩],ap3 mB⟩
theorem Br:Lk 3 ux:=ls BJ (aC mP aN)
def jo:T2e->Option (T2e⊕(LLCn×T1Z)):=λ(v0,v1,v2,v3,v4,v5,v6,v7,v8,_)=>
bif decide (v2 < v1) then ((ee v2).bind λx0=>
(dO v0 x0).bind λx1=>
bif (d9 24 0 x1.length) then let x2:LDCn:=(List.append [] x1);
bif (d9 24 v7.length (List.length [x2])) then let x3:List LDCn:=(List.append v7 [x2]);
let x4:=w64 (v2+1);
some (.inl (v0,v1,x4,v3,v4,v5,v6,x3,v8,())) else none else none) else
some (.inr (v0,v1,v2,false,v3,v4,v5,v6,v7,v8,()))
def hY(a0:List LDCn) (a1:LDOp):Option (T09):=
bif (d9 24 0 a1.length) then let x0:LDOp:=(List.append [] a1);
let x1:=dQ a0.length;
(dW jo NN (a0,x1,0,a0,a1,(),(),[],x0,())).bind λ(x2,x3,x4,x5,x6,x7,x8,x9,ac)=>
some (ac) else none
def Ga:X.Cfg:=⟨E0,[],[(21,(uaa KCn)),(22,(uaa KCn))],[(lx 4 0 [zaa 2,zaa 3,sP 11 (yaa ej),Uaa 12,Uaa 13] [(4,zad),(6,Xab),(8,Xae)] 14)]⟩
def jC:Ctr:=⟨154,35,[.agg zad],[],[⟨Xae,[.agg 2],[]⟩],ap2 hY⟩
theorem kP:Lk 1 jC:=ls Ga aN
def jn:LDOu×Int×Int×LDOu×Unit->Option ((LDOu×Int×Int×LDOu×Unit)⊕(LDOu×Int×Int×Bool×LDOu×Unit)):=λ(v0,v1,v2,v3,_)=>
bif decide (v2 < v1) then ((ee v2).bind λx0=>
(dO v0 x0).bind λx1=>
bif (d9 24 0 x1.2.2.length) then let x2:LDCn:=(List.append [] x1.2.2);
let x3:LDOu:=[(x1.1,(x1.2.1,x2))];
bif (d9 40 v3.length x3.length) then let x4:LDOu:=(List.append v3 x3);
let x5:=w64 (v2+1);
some (.inl (v0,v1,x5,x4,())) else none else none) else
some (.inr (v0,v1,v2,false,v3,()))
def kJ(a0:LDOu):Option (LDOu×Unit):=
let x0:=dQ a0.length;
(dW jn NN (a0,x0,0,[],())).bind λ(x1,x2,x3,x4,x5,_)=>
some (x5,())
def F5:X.Cfg:=⟨E0,[],[(18,IN),(19,IN)],[(lx 4 0 [Zaa 3 9,sP 6 j5,Uaa 7,Uaa 8] [(9,zaj)] 9)]⟩
def te:Ctr:=⟨155,36,uL [j5],[],[⟨zaj,[.one],[]⟩],ap1 kJ⟩
theorem xU:Lk 1 te:=ls F5 aN
def pa(a0:List (Int)) (a1:List (Int)) (a2:List LI) (a3:List LDCn) (a4:LDOp) (a5:LDOu):Option (T1n):=
bif (d9 2 0 a0.length) then let x0:List (Int):=(List.append [] a0);
bif (d9 2 0 a1.length) then let x1:List (Int):=(List.append [] a1);
(gk a2).bind λ(x2,_)=>
(hY a3 a4).bind λ(x3,x4,_)=>
(kJ a5).bind λ(x5,_)=>
some (x0,x1,x2,x3,x4,x5,()) else none else none
def F2:X.Cfg:=⟨E0,[jk,jC,te],[],[]⟩
def s8:Ctr:=⟨123,37,[.agg zag],[],[⟨Uaj,[.agg 6],[]⟩],ap6 pa⟩
theorem xT:Lk 2 s8:=ls F2 (aC lO (aC kP (aC xU aN)))
def Bk:T1d->Option (T1d⊕T1v):=λ(v0,v1,v2,v3,v4,v5,_)=>
bif decide (v1 < v0) then ((ee v1).bind λx0=>
(dO v4 x0).bind λx1=>
(dO v4 x0).bind λx2=>
let x3:=List.modify v4 x0 λe=>(-1);
let x4:=w64 (v1+1);
some (.inl (v0,x4,v2,v3,x3,v5,()))) else
some (.inr (v0,v1,false,v2,v3,v4,v5,()))
def uO:Option (T08):=
bif (sK 4 4 1) then let x0:List (Int):=(List.replicate 4 0);
bif (sK 4 4 1) then let x1:List LI:=(List.replicate 4 []);
let x2:=dQ x0.length;
(dW Bk NN (x2,0,(),(),x0,x1,())).bind λ(x3,x4,x5,x6,x7,x8)=>
some (x8) else none else none
def Ia:X.Cfg:=⟨E0,[],[(4,(uaa I64))],[(lx 4 0 [zaa 0,zaa 1,Uaa 8,Uaa 9] [(2,Xab),(4,Uae)] 10)]⟩
def A5:Ctr:=⟨124,38,[],[],[⟨Uae,[.agg 2],[]⟩],λh=>uO⟩
theorem HU:Lk 1 A5:=ls Ia aN
def yQ:T3P->Option (T3P⊕(Int×Bool×T3M)):=λ(v0,v1,v2,v3,v4,v5,v6,v7,v8,v9,v10,v11,v12,v13,v14,v15,v16,v17,v18,v19,v20,v21,v22,v23,v24,v25,v26,v27,v28,v29,v30,v31,v32,v33,v34,v35,v36,_)=>
bif decide (v0 < 4) then (bif (d9 8 v36.length (List.length [(-1)])) then let x0:List (Int):=(List.append v36 [(-1)]);
let x1:=w64 (v0+1);
some (.inl (x1,v1,v2,v3,v4,v5,v6,v7,v8,v9,v10,v11,v12,v13,v14,v15,v16,v17,v18,v19,v20,v21,v22,v23,v24,v25,v26,v27,v28,v29,v30,v31,v32,v33,v34,v35,x0,())) else none) else
some (.inr (v0,false,v1,v2,v3,v4,v5,v6,v7,v8,v9,v10,v11,v12,v13,v14,v15,v16,v17,v18,v19,v20,v21,v22,v23,v24,v25,v26,v27,v28,v29,v30,v31,v32,v33,v34,v35,v36,()))
def qO(a0:LDIn) (a1:List (Int)) (a2:List LI) (a3:List (Int)) (a4:Int) (a5:List (Int)) (a6:List (Int)) (a7:List LI) (a8:List LDCn) (a9:LDOp) (a10:LDOu):Option (LDIn×LI×LLI×LI×Int×LDCe×LDLn×LDTh×LI×LI×LLI×LLCn×LDOp×LDOu×LI×LLI×Unit×T07):=
(nL a0 a1 a2 a3 a4).bind λ(x0,x1,x2,x3,x4,x5,_)=>
bif (x5 != 0) then (some ([],[],[],[],0,[],[],[],[],[],[],[],[],[],[],[],(),[],x5,())) else
(jK a5 a6 a7 a8 a9 a10).bind λ(x6,_)=>
bif (!x6) then (some ([],[],[],[],0,[],[],[],[],[],[],[],[],[],[],[],(),[],1,())) else
(mB a1 a8 a9).bind λ(x7,_)=>
bif (!x7) then (some ([],[],[],[],0,[],[],[],[],[],[],[],[],[],[],[],(),[],1,())) else
(pa a5 a6 a7 a8 a9 a10).bind λ(x8,x9,ac,ae,af,ag,_)=>
(uO).bind λ(ah,ai,_)=>
(dW yQ NN (0,(),(),(),(),0,(),(),(),(),(),(),(),(),(),(),(),(),(),a0,a1,a2,x0,x1,x2,x3,x4,x8,x9,ac,ae,af,ag,ah,ai,(),[],())).bind λ(aj,ak,am,an,ap,aq,av,ax,ay,az,aA,aB,aD,aE,aF,aG,aH,aI,aJ,aK,aL,aM,aO,aP,aQ,aR,aS,aT,aU,aV,aW,aY,aZ,ba,bc,bd,bf,bg,_)=>
some (aL,aM,aO,aP,aQ,aR,aS,aT,aU,aV,aW,aY,aZ,ba,bc,bd,bf,bg,0,())
def DS:X.Cfg:=⟨E0,[ww,n5,ux,s8,A5],[],[(lx 11 0 [zaa 6,zaa 10,Uaa 39] [(14,Zag),(22,uL [ff,RI,(yaa RW),RI,CW,fq,fV,gD,RW,RW,(yaa RW),(yaa ej),iK,j5,RI,(yaa RI),N1,(uaa I64)])] 40)]⟩
def wd:Ctr:=⟨74,39,[.agg uab,.agg yab,.agg zag],[],[⟨uL [ff,RI,(yaa RW),RI,CW,fq,fV,gD,RW,RW,(yaa RW),(yaa ej),iK,j5,RI,(yaa RI),N1,(uaa I64),I64],[.agg 18,.one],[]⟩],ap11 qO⟩
theorem Dp:Lk 5 wd:=ls DS (aC DC (aC rd (aC Br (aC xT (aC HU aN)))))
def nT(a0:List (Int)) (a1:Int):Option (T0S):=
(dT 4 a0 a1).bind λ(x0,x1,x2,_)=>
let x3:List (Int):=[0,1,2,3,7,63];
(dT 6 x1 x2).bind λ(x4,x5,x6,_)=>
(ee x4).bind λx7=>
(dO x3 x7).bind λx8=>
(dO x3 x7).bind λx9=>
(dT 4 x5 x6).bind λ(ac,ae)=>
some (x0,x9,(ac==0),ae)
def Ey:X.Cfg:=⟨E0,[gu],[],[]⟩
def wH:Ctr:=⟨78,40,[.ptr ⟨2,0,[]⟩ [0]],[(2,Uab)],[⟨zai,[.agg 3],[(2,Uab)]⟩],ap2 nT⟩
theorem DN:Lk 4 wH:=ls Ey (aC gT aN)
def i5:T0E->Option (T0E⊕(LDTh×T0t)):=λ(v0,v1,v2,v3,_)=>
bif decide (v2 < v1) then (((ee v2).bind λx0=>
(dO v0 x0).bind λx1=>
bif (x1.1==1) then (bif (d9 8 v3.length (List.length [v2])) then let x2:List (Int):=(List.append v3 [v2]);
some (v0,v1,v2,x2,()) else none) else
some (v0,v1,v2,v3,()):Option (T0E)).bind λ(x0,x1,x2,x3,_)=>
let x4:=w64 (x2+1);
some (.inl (x0,x1,x4,x3,()))) else
some (.inr (v0,v1,v2,false,v3,()))
def nK(a0:LDTh):Option (LI×Unit):=
let x0:=dQ a0.length;
(dW i5 NN (a0,x0,0,[],())).bind λ(x1,x2,x3,x4,x5,_)=>
some (x5,())
def Eb:X.Cfg:=⟨E0,[],[],[⟨7,0,qE,[(.normal,qS [Zaa 3 9,sP 6 gD,Uaa 7,Uaa 8] [(9,yae)])]⟩,(lx 4 1 [Zaa 3 9,sP 6 gD,Uaa 7,Uaa 8] [(9,yae)] 9)]⟩
def wt:Ctr:=⟨126,41,uL [gD],[],[⟨yae,[.one],[]⟩],ap1 nK⟩
theorem Dz:Lk 1 wt:=ls Eb aN
def mC(a0:LDIn) (a1:List (Int)) (a2:List LI) (a3:List (Int)) (a4:Int) (a5:LDCe) (a6:LDLn) (a7:LDTh) (a8:List (Int)) (a9:List (Int)) (a10:List LI) (a11:List LDCn) (a12:LDOp) (a13:LDOu) (a14:List (Int)) (a15:List LI) (a16:LDEn) (a17:List (Int)):Option (T3b):=
bif (d9 8 0 a17.length) then let x0:List (Int):=(List.append [] a17);
bif (d9 184 0 a16.length) then let x1:LDEn:=(List.append [] a16);
some (a0,a1,a2,a3,a4,a5,a6,a7,a8,a9,a10,a11,a12,a13,a14,a15,x1,x0,()) else none else none
def BK:X.Cfg:=⟨E0,[],[(9,NC)],[]⟩
def uy:Ctr:=⟨127,42,[.agg uaf],[],[⟨yad,[.agg 18],[]⟩],ap18 mC⟩
theorem Bs:Lk 1 uy:=ls BK aN
def oo(a0:List (Int)) (a1:Int) (a2:LDCe) (a3:LDLn) (a4:LDTh) (a5:Int):Option (Bool×Unit):=
bif decide (a5 < 0) then (some (false,())) else
let x0:=dQ a4.length;
bif decide (a5>=x0) then (some (false,())) else
(ee a5).bind λx1=>
(dO a4 x1).bind λx2=>
bif (x2.1==1) then (bif (x2.2.2.2.2.1 != (-1)) then (some ((x2.2.2.2.2.2.1==(-1)),())) else
some (false,())) else
some (false,())
def H9:X.Cfg:=⟨E0,[],[],[]⟩
def uZ:Ctr:=⟨128,43,[.agg yac,shU I64],[],[⟨zab,[.one],[]⟩],ap6 oo⟩
theorem Ak:Lk 1 uZ:=ls H9 aN
def jx:T27->Option (T27⊕(LDLn×Int×Int×Bool×T1h)):=λ(v0,v1,v2,v3,v4,v5,v6,v7,v8,_)=>
bif decide (v2 < v1) then ((ee v2).bind λx0=>
(dO v0 x0).bind λx1=>
bif (d9 4 0 x1.2.2.length) then let x2:LDCe:=(List.append [] x1.2.2);
let x3:LDLn:=[(x1.1,(x1.2.1,x2))];
bif (d9 40 v8.length x3.length) then let x4:LDLn:=(List.append v8 x3);
let x5:=w64 (v2+1);
some (.inl (v0,v1,x5,v3,v4,v5,v6,v7,x4,())) else none else none) else
some (.inr (v0,v1,v2,false,v3,v4,v5,v6,v7,v8,()))
def pt(a0:LDCe) (a1:LDLn):Option (T04):=
bif (d9 4 0 a0.length) then let x0:LDCe:=(List.append [] a0);
let x1:=dQ a1.length;
(dW jx NN (a1,x1,0,a0,a1,(),(),x0,[],())).bind λ(x2,x3,x4,x5,x6,x7,x8,x9,ac)=>
some (ac) else none
def Gz:X.Cfg:=⟨E0,[],[(24,Ss),(25,Ss)],[(lx 4 0 [zaa 2,zaa 3,sP 11 fV,Uaa 12,Uaa 13] [(4,Xad),(6,Xab),(8,Uaf)] 14)]⟩
def yE:Ctr:=⟨169,44,[.agg Xad],[],[⟨Uaf,[.agg 2],[]⟩],ap2 pt⟩
theorem FP:Lk 1 yE:=ls Gz aN
def ju:T3d->Option (T3d⊕(LDTh×Int×Int×Bool×T30)):=λ(v0,v1,v2,v3,v4,v5,v6,v7,v8,v9,v10,v11,v12,v13,v14,v15,v16,v17,_)=>
bif decide (v2 < v1) then ((ee v2).bind λx0=>
(dO v0 x0).bind λx1=>
bif (d9 4 0 x1.2.1.length) then let x2:LDCe:=(List.append [] x1.2.1);
let x3:LDTh:=[(x1.1,(x2,(x1.2.2.1,(x1.2.2.2.1,(x1.2.2.2.2.1,(x1.2.2.2.2.2.1,(x1.2.2.2.2.2.2.1,x1.2.2.2.2.2.2.2)))))))];
bif (d9 80 v17.length x3.length) then let x4:LDTh:=(List.append v17 x3);
let x5:=w64 (v2+1);
some (.inl (v0,v1,x5,v3,v4,v5,v6,v7,v8,v9,v10,v11,v12,v13,v14,v15,v16,x4,())) else none else none) else
some (.inr (v0,v1,v2,false,v3,v4,v5,v6,v7,v8,v9,v10,v11,v12,v13,v14,v15,v16,v17,()))
def jv(a0:List (Int)) (a1:Int) (a2:LDCe) (a3:LDLn) (a4:LDTh):Option (T11):=
bif (d9 8 0 a0.length) then let x0:List (Int):=(List.append [] a0);
(pt a2 a3).bind λ(x1,x2,_)=>
let x3:=dQ a4.length;
(dW ju NN (a4,x3,0,a0,a1,a2,a3,a4,(),0,(),(),(),x0,a1,x1,x2,[],())).bind λ(x4,x5,x6,x7,x8,x9,ac,ae,af,ag,ah,ai,aj,ak,am)=>
some (am) else none
def Gs:X.Cfg:=⟨E0,[yE],[(32,Ps),(33,Ps)],[(lx 4 0 [zaa 2,zaa 3,sP 19 gD,Uaa 20,Uaa 21] [(4,yac),(6,Zab),(8,Xac)] 22)]⟩
def ng:Ctr:=⟨157,45,[.agg yac],[],[⟨Xac,[.agg 5],[]⟩],ap5 jv⟩
theorem pG:Lk 2 ng:=ls Gs (aC FP aN)
def lj(a0:List (Int)) (a1:Int) (a2:LDCe) (a3:LDLn) (a4:LDTh) (a5:Int):Option (T1l):=
(jv a0 a1 a2 a3 a4).bind λ(x0,x1,x2,x3,x4,_)=>
(oo a0 a1 a2 a3 a4 a5).bind λ(x5,_)=>
bif (!x5) then (some (x0,x1,x2,x3,x4,false,())) else
(ee a5).bind λx6=>
(dO x4 x6).bind λx7=>
(dO x4 x6).bind λx8=>
(dO x4 x6).bind λx9=>
(dO x4 x6).bind λac=>
let ae:=(List.modify x4 x6 λe=>(e.1,(e.2.1,(e.2.2.1,(e.2.2.2.1,(e.2.2.2.2.1,(x8.2.2.1,e.2.2.2.2.2.2)))))));
(dO ae x6).bind λaf=>
let ag:=(List.modify ae x6 λe=>(e.1,(e.2.1,(x9.2.2.2.2.1,e.2.2.2))));
some (x0,x1,x2,x3,ag,true,())
def AB:X.Cfg:=⟨E0,[ng,uZ],[],[]⟩
def tg:Ctr:=⟨129,46,[.agg yac,shU I64],[],[⟨Zak,[.agg 5,.one],[]⟩],ap6 lj⟩
theorem Aj:Lk 3 tg:=ls AB (aC pG (aC Ak aN))
def lE(a0:Int) (a1:Int):Option (Bool×Unit):=
some ((decide (a0<=2)),())
def Ep:X.Cfg:=⟨E0,[],[],[]⟩
def rI:Ctr:=⟨114,47,[.agg uac],[],[⟨zab,[.one],[]⟩],ap2 lE⟩
theorem vH:Lk 1 rI:=ls Ep aN
def mH:T0j->Option (T0j⊕((Bool×Unit)⊕T0A)):=λ(v0,v1,v2,_)=>
bif decide (v2 < v1) then ((ee v2).bind λx0=>
(dO v0 x0).bind λx1=>
(lE x1.1 x1.2).bind λ(x2,_)=>
bif (!x2) then (some (.inr (.inl (false,())))) else
let x3:=w64 (v2+1);
some (.inl (v0,v1,x3,()))) else
some (.inr (.inr (v0,v1,v2,false,())))
def ov(a0:LDCe):Option (Bool×Unit):=
let x0:=dQ a0.length;
(match dW mH NN (a0,x0,0,()) with
| none=>none
| some (.inl (x1,_))=>
some (x1,())
| some (.inr (x1,_))=>
some (true,()))
def Ig:X.Cfg:=⟨E0,[rI],[],[⟨3,0,qS [sP 5 fq,Uaa 6,Uaa 7] [],[(.ret,qS [Xaa 2] []),(.exit 0,qS [sP 5 fq,Uaa 6,Uaa 7,Xaa 8] [])]⟩]⟩
def Ba:Ctr:=⟨113,48,uL [fq],[],[⟨zab,[.one],[]⟩],ap1 ov⟩
theorem HZ:Lk 2 Ba:=ls Ig (aC vH aN)
def kA:LDLn×T0v->Option ((LDLn×T0v)⊕((Bool×Unit)⊕(LDLn×Int×Int×Bool×T04))):=λ(v0,v1,v2,v3)=>
bif decide (v2 < v1) then ((ee v2).bind λx0=>
(dO v0 x0).bind λx1=>
bif (x1.1==(-1)) then (bif x1.2.1 then (some (.inr (.inl (false,())))) else
let x2:=dQ x1.2.2.length;
bif decide (x2 > 0) then (some (.inr (.inl (false,())))) else
let x3:=w64 (v2+1);
some (.inl (v0,v1,x3,v3))) else
(bif decide (x1.1 < 0) then (some (v0,v1,v2,true,v3)) else
bif decide (x1.1>=128) then (some (v0,v1,v2,true,v3)) else
let x2:=Int.tmod x1.1 4;
bif (x2 != v2) then (some (v0,v1,v2,true,v3)) else
let x3:=dQ x1.2.2.length;
bif (x3 != 4) then (some (v0,v1,v2,true,v3)) else
(ov x1.2.2).bind λ(x4,_)=>
some (v0,v1,v2,(!x4),v3):Option (LDLn×Int×Int×Bool×T04)).bind λ(x2,x3,x4,x5,x6)=>
bif x5 then (some (.inr (.inl (false,())))) else
let x8:=w64 (x4+1);
some (.inl (x2,x3,x8,x6))) else
some (.inr (.inr (v0,v1,v2,false,v3)))
def nN(a0:LDCe) (a1:LDLn):Option (Bool×Unit):=
(let x0:=dQ a0.length;
bif (x0 != 512) then (some (true,a0,a1,())) else
let x1:=dQ a1.length;
bif (x1 != 4) then (some (true,a0,a1,())) else
(ov a0).bind λ(x2,_)=>
some ((!x2),a0,a1,()):Option (Bool×T04)).bind λ(x0,x1,x2,_)=>
bif x0 then (some (false,())) else
let x3:=dQ x2.length;
(match dW kA NN (x2,x3,0,x1,x2,()) with
| none=>none
| some (.inl (x4,_))=>
some (x4,())
| some (.inr (x4,_))=>
some (true,()))
def Ej:X.Cfg:=⟨E0,[Ba],[],[⟨2,0,qE,[(.normal,qS [zaa 1,Xaa 20] [(4,Xad)])]⟩,⟨16,1,qE,[(.normal,qS [sP 22 fV,Uaa 23,Uaa 24,Xaa 66] [(4,Xad)])]⟩,⟨6,2,qS [sP 22 fV,Uaa 23,Uaa 24] [(4,Xad)],[(.ret,qS [Xaa 2] []),(.exit 0,qS [sP 22 fV,Uaa 23,Uaa 24,Xaa 25] [(4,Xad)])]⟩]⟩
def wz:Ctr:=⟨71,49,[.agg Xad],[],[⟨zab,[.one],[]⟩],ap2 nN⟩
theorem DE:Lk 3 wz:=ls Ej (aC HZ aN)
def kt:T2x->Option (T2x⊕((Bool×Unit)⊕(LDCe×Int×Int×Bool×T1R))):=λ(v0,v1,v2,v3)=>
bif decide (v2 < v1) then ((ee v2).bind λx0=>
(dO v0 x0).bind λx1=>
(lE x1.1 x1.2).bind λ(x2,_)=>
bif (!x2) then (some (.inr (.inl (false,())))) else
let x3:=w64 (v2+1);
some (.inl (v0,v1,x3,v3))) else
some (.inr (.inr (v0,v1,v2,false,v3)))
def nJ(a0:Int) (a1:LDCe) (a2:Int) (a3:Int) (a4:Int) (a5:Int) (a6:Int) (a7:Int):Option (Bool×Unit):=
let x0:=dQ a1.length;
(match dW kt NN (a1,x0,0,a0,a1,a2,a3,a4,a5,a6,a7,()) with
| none=>none
| some (.inl (x1,_))=>
some (x1,())
| some (.inr (x1,x2,x3,x4,x5,x6,x7,x8,x9,ac,ae,af,_))=>
bif decide (x5>=0) then (bif decide (x5<=4) then (let ag:Int:=(dQ x6.length);
bif (ag==8) then (bif decide (x7>=0) then (bif decide (x7<=255) then (bif decide (x8>=0) then (bif decide (x8<=1099511627776) then (bif (decide (x9>=(-1))) then (bif decide (x9<=255) then (bif (decide (ac>=(-1))) then (bif decide (ac<=255) then (bif decide (ae>=0) then (some ((decide (ae<=6)),())) else
some (false,())) else
some (false,())) else
some (false,())) else
some (false,())) else
some (false,())) else
some (false,())) else
some (false,())) else
some (false,())) else
some (false,())) else
some (false,())) else
some (false,())) else
some (false,()))
def Ea:X.Cfg:=⟨E0,[rI],[],[⟨3,0,qS [zaa 1,sP 6 fq,Uaa 7,Uaa 8] [(4,Zad)],[(.ret,qS [Xaa 2] []),(.exit 0,qS [zaa 1,sP 6 fq,Uaa 7,Uaa 8,Xaa 9] [(4,Zad)])]⟩]⟩
def wq:Ctr:=⟨72,50,[.agg Zad],[],[⟨zab,[.one],[]⟩],ap8 nJ⟩
theorem Dy:Lk 2 wq:=ls Ea (aC vH aN)
def nq:T1T->Option (T1T⊕((Bool×Unit)⊕(LDTh×Int×Int×T17))):=λ(v0,v1,v2,v3)=>
bif decide (v2 < v1) then ((ee v2).bind λx0=>
(dO v0 x0).bind λx1=>
(nJ x1.1 x1.2.1 x1.2.2.1 x1.2.2.2.1 x1.2.2.2.2.1 x1.2.2.2.2.2.1 x1.2.2.2.2.2.2.1 x1.2.2.2.2.2.2.2).bind λ(x2,_)=>
bif (!x2) then (some (.inr (.inl (false,())))) else
let x3:=w64 (v2+1);
some (.inl (v0,v1,x3,v3))) else
some (.inr (.inr (v0,v1,v2,false,v3)))
def jM(a0:LDIn) (a1:List (Int)) (a2:List LI) (a3:List (Int)) (a4:Int) (a5:LDCe) (a6:LDLn) (a7:LDTh):Option (Bool×Unit):=
((iQ a0 a1 a2).bind λ(x0,_)=>
bif (x0 != 0) then (some (true,a3,a4,a5,a6,a7,())) else
(gG a3 a4 a1).bind λ(x1,_)=>
bif (!x1) then (some (true,a3,a4,a5,a6,a7,())) else
(nN a5 a6).bind λ(x2,_)=>
bif (!x2) then (some (true,a3,a4,a5,a6,a7,())) else
let x3:=dQ a7.length;
some ((x3 != 4),a3,a4,a5,a6,a7,()):Option (T17)).bind λ(x0,x1,x2,x3,x4,x5,_)=>
bif x0 then (some (false,())) else
let x6:=dQ x5.length;
(match dW nq NN (x5,x6,0,x1,x2,x3,x4,x5,()) with
| none=>none
| some (.inl (x7,_))=>
some (x7,())
| some (.inr (x7,_))=>
some (true,()))
def D8:X.Cfg:=⟨E0,[n8,lY,wz,wq],[],[⟨2,0,qE,[(.normal,qS [zaa 3,Xaa 29] [(8,yac)])]⟩,⟨6,1,qS [sP 31 gD,Uaa 32,Uaa 33] [(8,yac)],[(.ret,qS [Xaa 4] []),(.exit 0,qS [sP 31 gD,Uaa 32,Uaa 33,Xaa 34] [(8,yac)])]⟩]⟩
def n7:Ctr:=⟨25,51,[.agg uab,.agg yac],[],[⟨zab,[.one],[]⟩],ap8 jM⟩
theorem rf:Lk 4 n7:=ls D8 (aC rh (aC nX (aC DE (aC Dy aN))))
def fW(a0:Nat) (a1:Int) (a2:LDTh):Option (Int×LDTh×Unit):=
(dO a2 a0).bind λx0=>
let x1:=List.modify a2 a0 λe=>(4,e.2);
(dO x1 a0).bind λx2=>
let x3:=(List.modify x1 a0 λe=>(e.1,(e.2.1,(e.2.2.1,(e.2.2.2.1,(e.2.2.2.2.1,(e.2.2.2.2.2.1,(a1,e.2.2.2.2.2.2.2))))))));
(dO x3 a0).bind λx4=>
let x5:=(List.modify x3 a0 λe=>(e.1,(e.2.1,(e.2.2.1,(e.2.2.2.1,(e.2.2.2.2.1,(e.2.2.2.2.2.1,(e.2.2.2.2.2.2.1,0))))))));
some (2,x5,())
def Gm:X.Cfg:=⟨E0,[],[],[]⟩
def yy:Ctr:=⟨183,52,[.ptr ⟨2,0,[((),(8,0))]⟩ [0,0],shU I64],[(2,uL [p9])],[⟨Uac,[.one],[(2,uL [p9])]⟩],ap3 fW⟩
theorem FI:Lk 1 yy:=ls Gm aN
def eY:T2a->Option (T2a⊕(T0c⊕(LI×T24))):=λ(v0,v1,v2,v3,v4,v5)=>
bif decide (v4 < v3) then ((match ((ee v4).bind λx0=>
(dO v2 x0).bind λx1=>
bif decide (v1>=x1) then ((ee v4).bind λx2=>
(dO v0 x2).bind λx3=>
let x4:=w64 (x1+x3);
bif decide (v1 < x4) then (let x5:Int:=(w64 (v1 - x1));
some (.inl (true,v4,x5,()))) else
some (.inr (v0,v1,v4,x1,v2,v3,v4,false,v5))) else
some (.inr (v0,v1,v4,x1,v2,v3,v4,false,v5)):Option (T0c⊕(LI×Int×Int×T24))) with
| none=>none
| some (.inl (x0,x1,x2,_))=>
some (.inr (.inl (x0,x1,x2,())))
| some (.inr (x0,x1,x2,x3,x4,x5,x6,x7,x8))=>
let af:=w64 (x6+1);
some (.inl (x0,x1,x4,x5,af,x8)))) else
some (.inr (.inr (v0,v1,v2,v3,v4,false,v5)))
def fG(a0:List (Int)) (a1:Int) (a2:List (Int)) (a3:Int):Option (T0d):=
let x0:=dQ a0.length;
(match dW eY NN (a2,a3,a0,x0,0,a0,a1,0,0,()) with
| none=>none
| some (.inl (x1,x2,x3,_))=>
some (x2,x3,x1,())
| some (.inr (x1,x2,x3,_))=>
some (0,0,false,()))
def AF:X.Cfg:=⟨E0,[],[],[⟨6,0,qE,[(.ret,qS [zaa 6,Xaa 7] [(14,uad)]),(.normal,qS [sP 1 RI,Uaa 2,zaa 6,Uaa 8,Uaa 9,sP 11 RI,Uaa 12,Uaa 13,Xaa 30] [(8,yab),(14,uad)])]⟩,⟨3,1,qS [sP 1 RI,Uaa 2,zaa 6,sP 11 RI,Uaa 12,Uaa 13] [(8,yab),(14,uad)],[(.ret,qS [zaa 6,Xaa 7] [(14,uad)]),(.exit 0,qS [sP 1 RI,Uaa 2,zaa 6,sP 11 RI,Uaa 12,Uaa 13,Xaa 14] [(8,yab),(14,uad)])]⟩]⟩
def jD:Ctr:=⟨83,53,[.agg yab,shU RI,shU I64],[],[⟨zai,[.agg 2,.one],[]⟩],ap4 fG⟩
theorem lP:Lk 1 jD:=ls AF aN
def f9(a0:List (Int)) (a1:Int) (a2:List (Int)) (a3:Int) (a4:Int) (a5:Int) (a6:Bool):Option (T0e):=
bif (a3 != 1) then (some (0,0,3,())) else
let x0:=wk .i64 a4;
(fG a0 a1 a2 x0).bind λ(x1,x2,x3,_)=>
bif (!x3) then (some (0,0,4,())) else
(bif a6 then (let x4:Int:=(wk .i64 a5);
let x5:=w64 (x2 - x4);
some (a2,a0,a1,0,0,x1,x5,())) else
let x4:=wk .i64 a5;
let x5:=w64 (x2+x4);
some (a2,a0,a1,0,0,x1,x5,()):Option (LI×LI×T0U)).bind λ(x4,x5,x6,x7,x8,x9,ac,_)=>
(fR x4 x9 ac).bind λ(ae,_)=>
bif (!ae) then (some (0,0,4,())) else
(ee x9).bind λaf=>
(dO x5 af).bind λag=>
let ah:=w64 (ag+ac);
let ai:=wk .u16 ah;
some (1,ai,0,())
def Gr:X.Cfg:=⟨E0,[jD,kj],[],[⟨8,0,qE,[(.normal,qS [sP 1 RI,zaa 5,zaa 10,zaa 12] [(12,yab),(22,uac),(26,uad)])]⟩]⟩
def tz:Ctr:=⟨184,54,[.agg yab,shU RI,.agg uac,shU CW,shU .bool],[],[⟨Zah,[.agg 2,.one],[]⟩],ap7 f9⟩
theorem xZ:Lk 2 tz:=ls Gr (aC lP (aC mQ aN))
def lz(a0:Int) (a1:LDCe) (a2:LDLn):Option (Nat×T04):=
let x0:=w64 (Int.tdiv a0 4);
let x1:=Int.tmod x0 4;
(ee x1).bind λx2=>
(dO a2 x2).bind λx3=>
(dO a2 x2).bind λx4=>
bif (x4.1==x0) then (some (x2,a1,a2,())) else
((dO a2 x2).bind λx5=>
bif x5.2.1 then ((dO a2 x2).bind λx6=>
let x7:=w64 (x6.1*4);
(ee x7).bind λx8=>
bif (ir x8 a1.length a1.length) then (dO a2 x2).bind λx9=>
(dO a2 x2).bind λac=>
bif (ir x8 (Nat.add x8 (Nat.min ac.2.2.length (Nat.sub a1.length x8))) a1.length) then bif (Nat.blt 0 (Nat.min ac.2.2.length (Nat.sub a1.length x8))) then (let ae:LDCe:=(sF a1 x8 (Nat.min ac.2.2.length (Nat.sub a1.length x8)) ac.2.2);
let af:=(dQ (Nat.min ac.2.2.length (Nat.sub a1.length x8)));
some (x0,x2,ae,a2,())) else
let ae:=(dQ (Nat.min ac.2.2.length (Nat.sub a1.length x8)));
some (x0,x2,a1,a2,()) else none else none) else
some (x0,x2,a1,a2,()):Option (Int×Nat×T04)).bind λ(x5,x6,x7,x8,_)=>
(dO x8 x6).bind λx9=>
let ac:=List.modify x8 x6 λe=>(x5,e.2);
(dO ac x6).bind λae=>
let af:=(List.modify ac x6 λe=>(e.1,(false,e.2.2)));
let ag:=w64 (x5*4);
let ah:=w64 (x5+1);
let ai:=w64 (ah*4);
(ee ag).bind λaj=>
(ee ai).bind λak=>
bif (ir aj ak x7.length) then bif (d9 4 0 (List.length (kU x7 aj (Nat.sub ak aj)))) then let am:LDCe:=(List.append [] (kU x7 aj (Nat.sub ak aj)));
(dO af x6).bind λan=>
let ap:=(List.modify af x6 λe=>(e.1,(e.2.1,am)));
some (x6,x7,ap,()) else none else none
def Ei:X.Cfg:=⟨E0,[],[],[⟨6,0,qE,[(.normal,(qS [zaa 0,Uaa 5,(6,.ptr ⟨2,1,[((),(3,0))]⟩ [0,0])] [(2,Uaf)]))]⟩]⟩
def rF:Ctr:=⟨200,55,[.ptr ⟨2,0,[]⟩ [0],shU I64],[(2,Uaf)],[⟨[.ptr ⟨2,1,[((),(3,0))]⟩ [0,0]],[.ptr],[(2,Uaf)]⟩],ap3 lz⟩
theorem vF:Lk 1 rF:=ls Ei aN
def pn(a0:Int) (a1:LDCe) (a2:LDLn):Option (T0v):=
(lz a0 a1 a2).bind λ(x0,x1,x2,_)=>
(dO x2 x0).bind λx3=>
let x4:=Int.tmod a0 4;
(ee x4).bind λx5=>
(dO x2 x0).bind λx6=>
(dO x6.2.2 x5).bind λx7=>
(dO x2 x0).bind λx8=>
(dO x8.2.2 x5).bind λx9=>
some (x9.1,x9.2,x1,x2,())
def Gw:X.Cfg:=⟨E0,[rF],[],[]⟩
def yB:Ctr:=⟨185,56,[.ptr ⟨2,0,[]⟩ [0],shU I64],[(2,Uaf)],[⟨uac,[.agg 2],[(2,Uaf)]⟩],ap3 pn⟩
theorem FM:Lk 2 yB:=ls Gw (aC vF aN)
def lw(a0:Int) (a1:Int) (a2:Int) (a3:LDCe) (a4:LDLn):Option (T04):=
(lz a0 a3 a4).bind λ(x0,x1,x2,_)=>
(dO x2 x0).bind λx3=>
let x4:=Int.tmod a0 4;
(ee x4).bind λx5=>
(dO x2 x0).bind λx6=>
(dO x6.2.2 x5).bind λx7=>
(dO x2 x0).bind λx8=>
(dO x8.2.2 x5).bind λx9=>
let ac:=(List.modify x2 x0 λe=>(e.1,(e.2.1,(List.modify e.2.2 x5 λe=>(a1,a2)))));
(dO ac x0).bind λae=>
let af:=(List.modify ac x0 λe=>(e.1,(true,e.2.2)));
some (x1,af,())
def Eh:X.Cfg:=⟨E0,[rF],[],[]⟩
def rE:Ctr:=⟨186,57,[.ptr ⟨2,0,[]⟩ [0],shU I64,.agg uac],[(2,Uaf)],[⟨[],[],[(2,Uaf)]⟩],ap5 lw⟩
theorem vE:Lk 2 rE:=ls Eh (aC vF aN)
def kL(a0:Bool):Option (T02):=
bif a0 then (some (0,1,())) else
some (0,0,())
def Gq:X.Cfg:=⟨E0,[],[],[]⟩
def tw:Ctr:=⟨201,58,zab,[],[⟨uac,[.agg 2],[]⟩],ap1 kL⟩
theorem xY:Lk 1 tw:=ls Gq aN
def lr(a0:Int) (a1:Int) (a2:Int):Option (T0e):=
bif (a0==3) then (let x0:Int:=(wk .u16 (a1+a2));
some (0,x0,0,())) else
bif (a0==4) then (let x0:Int:=(wk .u16 (a1 - a2));
some (0,x0,0,())) else
bif (a0==5) then (let x0:Int:=(wk .u16 (a1*a2));
some (0,x0,0,())) else
bif (a0==6) then (bif (a2==0) then (some (0,0,5,())) else
bif (a0==6) then (bif (a2 != 0) then let x0:Int:=(wk .u16 (Int.tdiv a1 a2));
some (0,x0,0,()) else none) else
bif (a2 != 0) then let x0:Int:=(Int.tmod a1 a2);
some (0,x0,0,()) else none) else
bif (a0==7) then (bif (a2==0) then (some (0,0,5,())) else
bif (a0==6) then (bif (a2 != 0) then let x0:Int:=(wk .u16 (Int.tdiv a1 a2));
some (0,x0,0,()) else none) else
bif (a2 != 0) then let x0:Int:=(Int.tmod a1 a2);
some (0,x0,0,()) else none) else
bif (a0==8) then (let x0:Int:=(arR .and .u16 a1 a2);
some (0,x0,0,())) else
bif (a0==9) then (let x0:Int:=(arR .or .u16 a1 a2);
some (0,x0,0,())) else
bif (a0==10) then (let x0:Int:=(arR .xor .u16 a1 a2);
some (0,x0,0,())) else
bif (a0==11) then (let x0:Int:=(Int.tmod a2 16);
(ee x0).bind λx1=>
let x2:Int:=(shR .shl .u16 a1 x1);
some (0,x2,0,())) else
bif (a0==12) then (let x0:Int:=(Int.tmod a2 16);
(ee x0).bind λx1=>
let x2:Int:=(shR .shr .u16 a1 x1);
some (0,x2,0,())) else
(kL (decide (a1 < a2))).bind λ(x0,x1,_)=>
some (x0,x1,0,())
def AD:X.Cfg:=⟨E0,[tw],[],[]⟩
def tu:Ctr:=⟨202,59,uL [I64,CW,CW],[],[⟨Zah,[.agg 2,.one],[]⟩],ap3 lr⟩
theorem An:Lk 2 tu:=ls AD (aC xY aN)
def lu(a0:List (Int)) (a1:Int) (a2:List (Int)) (a3:Int) (a4:Int) (a5:Int) (a6:Int):Option (Int×Int×T0d):=
let x0:=wk .i64 a4;
(fG a0 a1 a2 x0).bind λ(x1,x2,x3,_)=>
let x4:=wk .i64 a6;
(fG a0 a1 a2 x4).bind λ(x5,x6,x7,_)=>
bif x3 then (bif x7 then (some (x1,x2,x5,x6,(x1==x5),())) else
some (x1,x2,x5,x6,false,())) else
some (x1,x2,x5,x6,false,())
def Ed:X.Cfg:=⟨E0,[jD],[],[]⟩
def wv:Ctr:=⟨203,60,[.agg yab,shU RI,.agg uac,.agg uac],[],[⟨uL [I64,I64,I64,I64,.bool],[.agg 2,.agg 2,.one],[]⟩],ap7 lu⟩
theorem DB:Lk 2 wv:=ls Ed (aC lP aN)
def tO(a0:List (Int)) (a1:Int) (a2:List (Int)) (a3:Int) (a4:Int) (a5:Int) (a6:Int) (a7:Int):Option (T0e):=
bif decide (a3 < 3) then (some (0,0,1,())) else
bif decide (a3 > 14) then (some (0,0,1,())) else
(match (bif (a3==14) then ((kL ((a4==a6) && ((a5==a7) && true))).bind λ(x0,x1,_)=>
some (.inl (0,x0,x1,()))) else
bif (a4==0) then (bif (a6==0) then ((lr a3 a5 a7).bind λ(x0,x1,x2,_)=>
some (.inl (x2,x0,x1,()))) else
(bif (a3==3) then (bif (a4==1) then (some (a2,a3,(a6==0),a0,a1,a4,a5,a6,a7,0,0,())) else
some (a2,a3,false,a0,a1,a4,a5,a6,a7,0,0,())) else
some (a2,a3,false,a0,a1,a4,a5,a6,a7,0,0,()):Option (T2z)).bind λ(x0,x1,x2,x3,x4,x5,x6,x7,x8,x9,ac,_)=>
bif x2 then ((f9 x3 x4 x0 x5 x6 x8 false).bind λ(ae,af,ag,_)=>
some (.inl (ag,ae,af,()))) else
(bif (x1==3) then (bif (x5==0) then (some (x0,x1,(x7==1),x3,x4,x5,x6,x7,x8,x9,ac,())) else
some (x0,x1,false,x3,x4,x5,x6,x7,x8,x9,ac,())) else
some (x0,x1,false,x3,x4,x5,x6,x7,x8,x9,ac,()):Option (T2z)).bind λ(ae,af,ag,ah,ai,aj,ak,am,an,ap,aq,_)=>
bif ag then ((f9 ah ai ae am an ak false).bind λ(av,ax,ay,_)=>
some (.inl (ay,av,ax,()))) else
(bif (af==4) then (bif (aj==1) then (some (ae,af,(am==0),ah,ai,aj,ak,am,an,ap,aq,())) else
some (ae,af,false,ah,ai,aj,ak,am,an,ap,aq,())) else
some (ae,af,false,ah,ai,aj,ak,am,an,ap,aq,()):Option (T2z)).bind λ(av,ax,ay,az,aA,aB,aD,aE,aF,aG,aH,_)=>
bif ay then ((f9 az aA av aB aD aF true).bind λ(aI,aJ,aK,_)=>
some (.inl (aK,aI,aJ,()))) else
(bif (ax==4) then (bif (aB==1) then (some (av,ax,(aE==1),az,aA,aB,aD,aE,aF,aG,aH,())) else
some (av,ax,false,az,aA,aB,aD,aE,aF,aG,aH,())) else
bif (ax==13) then (bif (aB==1) then (some (av,ax,(aE==1),az,aA,aB,aD,aE,aF,aG,aH,())) else
some (av,ax,false,az,aA,aB,aD,aE,aF,aG,aH,())) else
some (av,ax,false,az,aA,aB,aD,aE,aF,aG,aH,()):Option (T2z)).bind λ(aI,aJ,aK,aL,aM,aO,aP,aQ,aR,aS,aT,_)=>
bif aK then ((lu aL aM aI aO aP aQ aR).bind λ(aU,aV,aW,aY,aZ,_)=>
bif (!aZ) then (some (.inl (4,0,0,()))) else
bif (aJ==13) then ((kL (decide (aV < aY))).bind λ(ba,bc,_)=>
some (.inl (0,ba,bc,()))) else
let ba:=w64 (aV - aY);
let bc:=wk .u16 ba;
some (.inl (0,0,bc,()))) else
some (.inr (aI,aJ,false,aL,aM,aO,aP,aQ,aR,aS,aT,()))) else
(bif (a3==3) then (bif (a4==1) then (some (a2,a3,(a6==0),a0,a1,a4,a5,a6,a7,0,0,())) else
some (a2,a3,false,a0,a1,a4,a5,a6,a7,0,0,())) else
some (a2,a3,false,a0,a1,a4,a5,a6,a7,0,0,()):Option (T2z)).bind λ(x0,x1,x2,x3,x4,x5,x6,x7,x8,x9,ac,_)=>
bif x2 then ((f9 x3 x4 x0 x5 x6 x8 false).bind λ(ae,af,ag,_)=>
some (.inl (ag,ae,af,()))) else
(bif (x1==3) then (bif (x5==0) then (some (x0,x1,(x7==1),x3,x4,x5,x6,x7,x8,x9,ac,())) else
some (x0,x1,false,x3,x4,x5,x6,x7,x8,x9,ac,())) else
some (x0,x1,false,x3,x4,x5,x6,x7,x8,x9,ac,()):Option (T2z)).bind λ(ae,af,ag,ah,ai,aj,ak,am,an,ap,aq,_)=>
bif ag then ((f9 ah ai ae am an ak false).bind λ(av,ax,ay,_)=>
some (.inl (ay,av,ax,()))) else
(bif (af==4) then (bif (aj==1) then (some (ae,af,(am==0),ah,ai,aj,ak,am,an,ap,aq,())) else
some (ae,af,false,ah,ai,aj,ak,am,an,ap,aq,())) else
some (ae,af,false,ah,ai,aj,ak,am,an,ap,aq,()):Option (T2z)).bind λ(av,ax,ay,az,aA,aB,aD,aE,aF,aG,aH,_)=>
bif ay then ((f9 az aA av aB aD aF true).bind λ(aI,aJ,aK,_)=>
some (.inl (aK,aI,aJ,()))) else
(bif (ax==4) then (bif (aB==1) then (some (av,ax,(aE==1),az,aA,aB,aD,aE,aF,aG,aH,())) else
some (av,ax,false,az,aA,aB,aD,aE,aF,aG,aH,())) else
bif (ax==13) then (bif (aB==1) then (some (av,ax,(aE==1),az,aA,aB,aD,aE,aF,aG,aH,())) else
some (av,ax,false,az,aA,aB,aD,aE,aF,aG,aH,())) else
some (av,ax,false,az,aA,aB,aD,aE,aF,aG,aH,()):Option (T2z)).bind λ(aI,aJ,aK,aL,aM,aO,aP,aQ,aR,aS,aT,_)=>
bif aK then ((lu aL aM aI aO aP aQ aR).bind λ(aU,aV,aW,aY,aZ,_)=>
bif (!aZ) then (some (.inl (4,0,0,()))) else
bif (aJ==13) then ((kL (decide (aV < aY))).bind λ(ba,bc,_)=>
some (.inl (0,ba,bc,()))) else
let ba:=w64 (aV - aY);
let bc:=wk .u16 ba;
some (.inl (0,0,bc,()))) else
some (.inr (aI,aJ,false,aL,aM,aO,aP,aQ,aR,aS,aT,())):Option (T0e⊕T2z)) with
| none=>none
| some (.inl (x0,x1,x2,_))=>
some (x1,x2,x0,())
| some (.inr (x0,x1,x2,x3,x4,x5,x6,x7,x8,x9,ac,_))=>
some (0,0,3,()))
def KO:X.Cfg:=⟨E0,[tw,tu,tz,wv],[],[⟨9,0,qE,[(.normal,qS [sP 1 RI,Uaa 2,zaa 5,zaa 8,zaa 9,zaa 10,Xaa 46] [(12,yab),(18,uac),(20,uac),(22,uac)])]⟩,⟨11,1,qE,[(.normal,qS [sP 1 RI,Uaa 2,zaa 5,zaa 8,zaa 9,zaa 10,Xaa 67] [(12,yab),(18,uac),(20,uac),(22,uac)])]⟩,⟨13,2,qE,[(.normal,qS [sP 1 RI,Uaa 2,zaa 5,zaa 8,zaa 9,zaa 10,Xaa 88] [(12,yab),(18,uac),(20,uac),(22,uac)])]⟩,⟨15,3,qE,[(.normal,qS [sP 1 RI,Uaa 2,zaa 5,zaa 8,zaa 9,zaa 10,Xaa 109] [(12,yab),(18,uac),(20,uac),(22,uac)])]⟩,⟨4,4,qE,[(.ret,qS [zaa 10,Uaa 11] [(22,uac)]),(.normal,qS [sP 1 RI,Uaa 2,zaa 5,zaa 8,zaa 9,zaa 10,Xaa 109] [(12,yab),(18,uac),(20,uac),(22,uac)])]⟩]⟩
def CP:Ctr:=⟨187,61,[.agg yab,shU RI,shU I64,.agg uac,.agg uac],[],[⟨Zah,[.agg 2,.one],[]⟩],ap8 tO⟩
theorem KG:Lk 3 CP:=ls KO (aC xY (aC An (aC xZ (aC DB aN))))
def mG(a0:Int):Option (Bool×Unit):=
(hZ a0).bind λ(x0,_)=>
bif x0 then (some (true,())) else
bif (a0==22) then (some (true,())) else
some ((a0==24),())
def BR:X.Cfg:=⟨E0,[kS],[],[]⟩
def uC:Ctr:=⟨188,62,Uac,[],[⟨zab,[.one],[]⟩],ap1 mG⟩
theorem Bw:Lk 2 uC:=ls BR (aC nc aN)
def qU(a0:LDIn) (a1:List (Int)) (a2:List LI) (a3:Int) (a4:List (Int)) (a5:Int) (a6:LDCe) (a7:LDLn) (a8:LDTh):Option (T1f):=
(ee a3).bind λx0=>
(dO a8 x0).bind λx1=>
(dO a8 x0).bind λx2=>
let x3:=dQ a0.length;
bif decide (x2.2.2.1>=x3) then ((fW x0 2 a8).bind λ(x4,x5,_)=>
some (x4,a4,a5,a6,a7,x5,())) else
(dO a8 x0).bind λx4=>
(ee x4.2.2.1).bind λx5=>
(dO a0 x5).bind λx6=>
(dO a8 x0).bind λx7=>
let x8:=w64 (x7.2.2.1+1);
(dO a8 x0).bind λx9=>
(ee x6.2.1).bind λac=>
(dO a8 x0).bind λae=>
(dO ae.2.1 ac).bind λaf=>
(dO a8 x0).bind λag=>
(dO ag.2.1 ac).bind λah=>
(dO a8 x0).bind λai=>
(ee x6.2.2.1).bind λaj=>
(dO a8 x0).bind λak=>
(dO ak.2.1 aj).bind λam=>
(dO a8 x0).bind λan=>
(dO an.2.1 aj).bind λap=>
(match (bif (x6.1==0) then (some (.inl (x0,x8,a4,a5,a6,a7,a8,x6.1,x6.2.1,x6.2.2.1,x6.2.2.2.1,x6.2.2.2.2,()))) else
bif (x6.1==1) then ((dO a8 x0).bind λaq=>
let av:=wk .u16 x6.2.2.2.2;
(ee x6.2.1).bind λax=>
(dO a8 x0).bind λay=>
(dO ay.2.1 ax).bind λaz=>
(dO a8 x0).bind λaA=>
(dO aA.2.1 ax).bind λaB=>
let aD:=(List.modify a8 x0 λe=>(e.1,((List.modify e.2.1 ax λe=>(0,av)),e.2.2)));
some (.inl (x0,x8,a4,a5,a6,a7,aD,x6.1,x6.2.1,x6.2.2.1,x6.2.2.2.1,x6.2.2.2.2,()))) else
bif (x6.1==2) then ((dO a8 x0).bind λaq=>
(ee x6.2.1).bind λav=>
(dO a8 x0).bind λax=>
(dO ax.2.1 av).bind λay=>
(dO a8 x0).bind λaz=>
(dO az.2.1 av).bind λaA=>
let aB:=(List.modify a8 x0 λe=>(e.1,((List.modify e.2.1 av λe=>(ap.1,ap.2)),e.2.2)));
some (.inl (x0,x8,a4,a5,a6,a7,aB,x6.1,x6.2.1,x6.2.2.1,x6.2.2.2.1,x6.2.2.2.2,()))) else
bif (x6.1==15) then ((dO a8 x0).bind λaq=>
(ee x6.2.2.2.2).bind λav=>
(dO a4 av).bind λax=>
let ay:=wk .u16 ax;
(ee x6.2.1).bind λaz=>
(dO a8 x0).bind λaA=>
(dO aA.2.1 az).bind λaB=>
(dO a8 x0).bind λaD=>
(dO aD.2.1 az).bind λaE=>
let aF:=(List.modify a8 x0 λe=>(e.1,((List.modify e.2.1 az λe=>(1,ay)),e.2.2)));
some (.inl (x0,x8,a4,a5,a6,a7,aF,x6.1,x6.2.1,x6.2.2.1,x6.2.2.2.1,x6.2.2.2.2,()))) else
bif (x6.1==16) then ((bif (x6.1==17) then (some (x0,x8,a4,a5,a6,a7,a8,a0,a1,a2,x6.1,x6.2.1,x6.2.2.1,x6.2.2.2.1,x6.2.2.2.2,ap.1,ap.2,ah.1,ah.2,())) else
some (x0,x8,a4,a5,a6,a7,a8,a0,a1,a2,x6.1,x6.2.1,x6.2.2.1,x6.2.2.2.1,x6.2.2.2.2,ap.1,ap.2,ap.1,ap.2,()):Option (T3h)).bind λ(aq,av,ax,ay,az,aA,aB,aD,aE,aF,aG,aH,aI,aJ,aK,aL,aM,aO,aP,_)=>
let aQ:=wk .u16 aK;
(f9 ax ay aE aO aP aQ false).bind λ(aR,aS,aT,_)=>
bif (aT != 0) then ((fW aq aT aB).bind λ(aU,aV,_)=>
some (.inr (aU,ax,ay,az,aA,aV,()))) else
bif (aG==16) then ((dO aB aq).bind λaU=>
let aV:=wk .i64 aS;
(pn aV az aA).bind λ(aW,aY,aZ,ba,_)=>
(ee aH).bind λbc=>
(dO aB aq).bind λbd=>
(dO bd.2.1 bc).bind λbf=>
(dO aB aq).bind λbg=>
(dO bg.2.1 bc).bind λbh=>
let bi:=(List.modify aB aq λe=>(e.1,((List.modify e.2.1 bc λe=>(aW,aY)),e.2.2)));
some (.inl (aq,av,ax,ay,aZ,ba,bi,aG,aH,aI,aJ,aK,()))) else
let aU:=wk .i64 aS;
(lw aU aL aM az aA).bind λ(aV,aW,_)=>
some (.inl (aq,av,ax,ay,aV,aW,aB,aG,aH,aI,aJ,aK,()))) else
bif (x6.1==17) then ((bif (x6.1==17) then (some (x0,x8,a4,a5,a6,a7,a8,a0,a1,a2,x6.1,x6.2.1,x6.2.2.1,x6.2.2.2.1,x6.2.2.2.2,ap.1,ap.2,ah.1,ah.2,())) else
some (x0,x8,a4,a5,a6,a7,a8,a0,a1,a2,x6.1,x6.2.1,x6.2.2.1,x6.2.2.2.1,x6.2.2.2.2,ap.1,ap.2,ap.1,ap.2,()):Option (T3h)).bind λ(aq,av,ax,ay,az,aA,aB,aD,aE,aF,aG,aH,aI,aJ,aK,aL,aM,aO,aP,_)=>
let aQ:=wk .u16 aK;
(f9 ax ay aE aO aP aQ false).bind λ(aR,aS,aT,_)=>
bif (aT != 0) then ((fW aq aT aB).bind λ(aU,aV,_)=>
some (.inr (aU,ax,ay,az,aA,aV,()))) else
bif (aG==16) then ((dO aB aq).bind λaU=>
let aV:=wk .i64 aS;
(pn aV az aA).bind λ(aW,aY,aZ,ba,_)=>
(ee aH).bind λbc=>
(dO aB aq).bind λbd=>
(dO bd.2.1 bc).bind λbf=>
(dO aB aq).bind λbg=>
(dO bg.2.1 bc).bind λbh=>
let bi:=(List.modify aB aq λe=>(e.1,((List.modify e.2.1 bc λe=>(aW,aY)),e.2.2)));
some (.inl (aq,av,ax,ay,aZ,ba,bi,aG,aH,aI,aJ,aK,()))) else
let aU:=wk .i64 aS;
(lw aU aL aM az aA).bind λ(aV,aW,_)=>
some (.inl (aq,av,ax,ay,aV,aW,aB,aG,aH,aI,aJ,aK,()))) else
bif (x6.1==18) then (some (.inl (x0,x6.2.2.2.2,a4,a5,a6,a7,a8,x6.1,x6.2.1,x6.2.2.1,x6.2.2.2.1,x6.2.2.2.2,()))) else
bif (x6.1==19) then (bif (ah.1 != 0) then ((fW x0 3 a8).bind λ(aq,av,_)=>
some (.inr (aq,a4,a5,a6,a7,av,()))) else
bif ((ah.2==0)==(x6.1==19)) then (some (.inl (x0,x6.2.2.2.2,a4,a5,a6,a7,a8,x6.1,x6.2.1,x6.2.2.1,x6.2.2.2.1,x6.2.2.2.2,()))) else
some (.inl (x0,x8,a4,a5,a6,a7,a8,x6.1,x6.2.1,x6.2.2.1,x6.2.2.2.1,x6.2.2.2.2,()))) else
bif (x6.1==20) then (bif (ah.1 != 0) then ((fW x0 3 a8).bind λ(aq,av,_)=>
some (.inr (aq,a4,a5,a6,a7,av,()))) else
bif ((ah.2==0)==(x6.1==19)) then (some (.inl (x0,x6.2.2.2.2,a4,a5,a6,a7,a8,x6.1,x6.2.1,x6.2.2.1,x6.2.2.2.1,x6.2.2.2.2,()))) else
some (.inl (x0,x8,a4,a5,a6,a7,a8,x6.1,x6.2.1,x6.2.2.1,x6.2.2.2.1,x6.2.2.2.2,()))) else
bif (x6.1==21) then ((dO a8 x0).bind λaq=>
let av:=wk .u16 x8;
(ee x6.2.1).bind λax=>
(dO a8 x0).bind λay=>
(dO ay.2.1 ax).bind λaz=>
(dO a8 x0).bind λaA=>
(dO aA.2.1 ax).bind λaB=>
let aD:=(List.modify a8 x0 λe=>(e.1,((List.modify e.2.1 ax λe=>(0,av)),e.2.2)));
some (.inl (x0,x6.2.2.2.2,a4,a5,a6,a7,aD,x6.1,x6.2.1,x6.2.2.1,x6.2.2.2.1,x6.2.2.2.2,()))) else
bif (x6.1==22) then (bif (ah.1 != 0) then ((fW x0 3 a8).bind λ(aq,av,_)=>
some (.inr (aq,a4,a5,a6,a7,av,()))) else
bif decide (ah.2 > 255) then ((fW x0 2 a8).bind λ(aq,av,_)=>
some (.inr (aq,a4,a5,a6,a7,av,()))) else
let aq:=wk .i64 ah.2;
some (.inl (x0,aq,a4,a5,a6,a7,a8,x6.1,x6.2.1,x6.2.2.1,x6.2.2.2.1,x6.2.2.2.2,()))) else
bif (x6.1==24) then ((dO a8 x0).bind λaq=>
bif (aq.2.2.2.2.2.1==(-1)) then ((fW x0 1 a8).bind λ(av,ax,_)=>
some (.inr (av,a4,a5,a6,a7,ax,()))) else
(dO a8 x0).bind λav=>
(dO a8 x0).bind λax=>
let ay:=(List.modify a8 x0 λe=>(e.1,(e.2.1,(e.2.2.1,(e.2.2.2.1,(e.2.2.2.2.1,((-1),e.2.2.2.2.2.2)))))));
some (.inl (x0,av.2.2.2.2.2.1,a4,a5,a6,a7,ay,x6.1,x6.2.1,x6.2.2.1,x6.2.2.2.1,x6.2.2.2.2,()))) else
bif (x6.1==23) then ((dO a8 x0).bind λaq=>
let av:=List.modify a8 x0 λe=>(2,e.2);
(dO av x0).bind λax=>
let ay:=(List.modify av x0 λe=>(e.1,(e.2.1,(x8,e.2.2.2))));
some (.inr (1,a4,a5,a6,a7,ay,()))) else
(dO a8 x0).bind λaq=>
(ee x6.2.2.2.1).bind λav=>
(dO a8 x0).bind λax=>
(dO ax.2.1 av).bind λay=>
(dO a8 x0).bind λaz=>
(dO az.2.1 av).bind λaA=>
(tO a4 a5 a1 x6.1 ap.1 ap.2 aA.1 aA.2).bind λ(aB,aD,aE,_)=>
bif (aE != 0) then ((fW x0 aE a8).bind λ(aF,aG,_)=>
some (.inr (aF,a4,a5,a6,a7,aG,()))) else
(dO a8 x0).bind λaF=>
(ee x6.2.1).bind λaG=>
(dO a8 x0).bind λaH=>
(dO aH.2.1 aG).bind λaI=>
(dO a8 x0).bind λaJ=>
(dO aJ.2.1 aG).bind λaK=>
let aL:=(List.modify a8 x0 λe=>(e.1,((List.modify e.2.1 aG λe=>(aB,aD)),e.2.2)));
some (.inl (x0,x8,a4,a5,a6,a7,aL,x6.1,x6.2.1,x6.2.2.1,x6.2.2.2.1,x6.2.2.2.2,())):Option ((Nat×Int×LI×Int×LDCe×LDLn×LDTh×T0U)⊕T1f)) with
| none=>none
| some (.inl (aq,av,ax,ay,az,aA,aB,aD,aE,aF,aG,aH,_))=>
(dO aB aq).bind λaI=>
let aJ:=(List.modify aB aq λe=>(e.1,(e.2.1,(av,e.2.2.2))));
((mG aD).bind λ(aK,_)=>
bif aK then ((dO aJ aq).bind λaL=>
let aM:=w64 (aL.2.2.2.1+1);
(dO aJ aq).bind λaO=>
let aP:=(List.modify aJ aq λe=>(e.1,(e.2.1,(e.2.2.1,(aM,e.2.2.2.2)))));
some (ax,ay,az,aA,aP,())) else
some (ax,ay,az,aA,aJ,()):Option (T11)).bind λ(aK,aL,aM,aO,aP,_)=>
some ((-1),aK,aL,aM,aO,aP,())
| some (.inr (aq,av,ax,ay,az,aA,_))=>
some (aq,av,ax,ay,az,aA,()))
def Id:X.Cfg:=⟨E0,[yy,tz,yB,rE,CP,uC],[],[⟨17,0,qE,[(.normal,(qS [zaa 1,zaa 3,(7,.ptr ⟨4,4,[((),(8,0))]⟩ [0,0]),zaa 8,Uaa 9,zaa 11,zaa 12] [(4,Xac),(8,uab),(18,Uad),(24,uac),(26,uac)]))]⟩,⟨8,1,qE,[(.normal,(qS [zaa 1,(7,.ptr ⟨4,4,[((),(8,0))]⟩ [0,0]),zaa 8,Uaa 9] [(4,Xac),(18,Uad)])),(.ret,qS [zaa 1,Uaa 6] [(4,Xac)])]⟩,⟨52,2,qE,[(.normal,qS [zaa 1] [(4,Xac)])]⟩]⟩
def A8:Ctr:=⟨170,63,[.agg uab,.ptr ⟨4,0,[]⟩ [0],shU I64],[(4,Xac)],[⟨Uac,[.one],[(4,Xac)]⟩],ap9 qU⟩
theorem HX:Lk 4 A8:=ls Id (aC FI (aC xZ (aC FM (aC vE (aC KG (aC Bw aN))))))
def rT:T2Y->Option (T2Y⊕T1B):=λ(v0,v1,v2,v3,v4,v5,v6,v7,v8,v9,v10,v11,v12,v13,v14,_)=>
(qU v2 v3 v4 v0 v10 v11 v12 v13 v14).bind λ(x0,x1,x2,x3,x4,x5,_)=>
bif (x0 != (-1)) then (some (.inr (x0,0,x1,x2,x3,x4,x5,()))) else
(ee v0).bind λx6=>
(dO x5 x6).bind λx7=>
(dO x5 x6).bind λx8=>
bif (x8.2.2.2.1==v1) then (some (.inr (0,0,x1,x2,x3,x4,x5,()))) else
some (.inl (v0,v1,v2,v3,v4,v5,v6,v7,v8,v9,x1,x2,x3,x4,x5,()))
def nI(a0:LDIn) (a1:List (Int)) (a2:List LI) (a3:List (Int)) (a4:Int) (a5:LDCe) (a6:LDLn) (a7:LDTh) (a8:Int) (a9:Int):Option (LI×Int×LDCe×LDLn×LDTh×T02):=
((jM a0 a1 a2 a3 a4 a5 a6 a7).bind λ(x0,_)=>
bif (!x0) then (some (a8,a9,true,a0,a1,a2,a3,a4,a5,a6,a7,(),0,(),(),(),())) else
bif decide (a8 < 0) then (some (a8,a9,true,a0,a1,a2,a3,a4,a5,a6,a7,(),0,(),(),(),())) else
bif decide (a8>=4) then (some (a8,a9,true,a0,a1,a2,a3,a4,a5,a6,a7,(),0,(),(),(),())) else
bif decide (a9 < 1) then (some (a8,a9,true,a0,a1,a2,a3,a4,a5,a6,a7,(),0,(),(),(),())) else
some (a8,a9,(decide (a9 > 64)),a0,a1,a2,a3,a4,a5,a6,a7,(),0,(),(),(),()):Option (Int×Int×Bool×LDIn×LI×LLI×LI×Int×LDCe×LDLn×LDTh×T13)).bind λ(x0,x1,x2,x3,x4,x5,x6,x7,x8,x9,ac,ae,af,ag,ah,ai,_)=>
bif x2 then (some ([],0,[],[],[],0,1,())) else
(jv x6 x7 x8 x9 ac).bind λ(aj,ak,am,an,ap,_)=>
(ee x0).bind λaq=>
(dO ac aq).bind λav=>
bif (av.1 != 1) then (some (aj,ak,am,an,ap,3,0,())) else
(ee x0).bind λax=>
(dO ap ax).bind λay=>
(dO ap ax).bind λaz=>
let aA:=w64 (az.2.2.2.1+x1);
(dW rT NN (x0,aA,x3,x4,x5,ae,af,ag,ah,ai,aj,ak,am,an,ap,())).bind λ(aB,aD,aE,aF,aG,aH,aI,_)=>
some (aE,aF,aG,aH,aI,aB,aD,())
def D9:X.Cfg:=⟨E0,[n7,ng,A8],[],[⟨2,0,qE,[(.normal,qS [Uaa 2,Uaa 3,zaa 4,zaa 5,zaa 8,Xaa 33] [(10,uab),(12,yac),(18,Zab)])]⟩,⟨9,1,qS [Uaa 2,zaa 4,zaa 8,zaa 11,Uaa 12] [(10,uab),(18,Zab),(24,Xac)],[(.ret,qS [zaa 8,Uaa 9,Uaa 10] [(18,Xac)])]⟩]⟩
def wo:Ctr:=⟨158,64,[.agg uab,.agg yac,shU I64,shU I64],[],[⟨uL [RI,CW,(uaa KCe),jG,p9,I64,I64],[.agg 5,.one,.one],[]⟩],ap10 nI⟩
theorem Dx:Lk 5 wo:=ls D9 (aC rf (aC pG (aC HX aN)))
def ln(a0:Int):Option (ByteArray×Unit):=
let x0:ByteArray:=(bytes []);
(bif (a0==0) then (some (a0,true,())) else
bif (a0==8) then (some (a0,true,())) else
bif (a0==9) then (some (a0,true,())) else
bif (a0==11) then (some (a0,true,())) else
some (a0,(a0==12),()):Option (T01)).bind λ(x1,x2,_)=>
bif x2 then (let x3:ByteArray:=(bytes [78]);
some (x3,())) else
bif (x1==1) then (let x3:ByteArray:=(bytes [72,80,78]);
some (x3,())) else
bif (x1==2) then (let x3:ByteArray:=(bytes [72,80,78]);
some (x3,())) else
bif (x1==3) then (let x3:ByteArray:=(bytes [78,78]);
some (x3,())) else
bif (x1==4) then (let x3:ByteArray:=(bytes [72]);
some (x3,())) else
bif (x1==5) then (let x3:ByteArray:=(bytes [72,78]);
some (x3,())) else
bif (x1==10) then (let x3:ByteArray:=(bytes [78,88]);
some (x3,())) else
bif (x1==13) then (let x3:ByteArray:=(bytes [78,80,78]);
some (x3,())) else
bif (x1==14) then (let x3:ByteArray:=(bytes [78,80,78]);
some (x3,())) else
let x3:ByteArray:=(bytes []);
some (x3,())
def D3:X.Cfg:=⟨E0,[],[],[⟨3,0,qE,[(.normal,qS [Uaa 3,Xaa 4] [])]⟩]⟩
def n6:Ctr:=⟨171,65,Uac,[],[⟨uL [.str],[.one],[]⟩],ap1 ln⟩
theorem re:Lk 1 n6:=ls D3 aN
def mX(a0:Int) (a1:Int):Option (Bool×Unit):=
bif (a0==78) then (some ((a1==0),())) else
bif (a0==72) then (some ((a1==2),())) else
bif (a0==80) then (some ((a1==1),())) else
some (true,())
def Gi:X.Cfg:=⟨E0,[],[],[]⟩
def to:Ctr:=⟨172,66,uL [CB,CB],[],[⟨zab,[.one],[]⟩],ap2 mX⟩
theorem xW:Lk 1 to:=ls Gi aN
def jc(a0:Int):Option (Int×Unit):=
bif decide (a0 < 0) then (some ((-1),())) else
bif decide (a0 > 15) then (some ((-1),())) else
bif (a0==1) then (some (1,())) else
bif (a0==13) then (some (1,())) else
bif (a0==2) then (some (2,())) else
bif (a0==14) then (some (2,())) else
some (0,())
def BN:X.Cfg:=⟨E0,[],[],[]⟩
def kg:Ctr:=⟨162,67,Uac,[],[⟨Uac,[.one],[]⟩],ap1 jc⟩
theorem mO:Lk 1 kg:=ls BN aN
def mF(a0:List (Int)) (a1:Int) (a2:List (Int)) (a3:Int) (a4:Int) (a5:Int):Option (T02):=
bif (a3 != 1) then (some (0,3,())) else
let x0:=wk .i64 a4;
(fG a0 a1 a2 x0).bind λ(x1,x2,x3,_)=>
(bif (!x3) then (some (true,a3,a4,())) else
bif decide (a5 < 0) then (some (true,a3,a4,())) else
(ee x1).bind λx4=>
(dO a2 x4).bind λx5=>
let x6:=w64 (x5 - x2);
some ((decide (a5 > x6)),a3,a4,()):Option (T0c)).bind λ(x4,x5,x6,_)=>
bif x4 then (some (0,4,())) else
let x7:=wk .i64 x6;
some (x7,0,())
def BQ:X.Cfg:=⟨E0,[jD],[],[⟨6,0,qE,[(.normal,qS [zaa 6,Xaa 41] [(14,uac)])]⟩]⟩
def uB:Ctr:=⟨173,68,[.agg yab,shU RI,.agg uac,shU I64],[],[⟨uad,[.one,.one],[]⟩],ap6 mF⟩
theorem Bv:Lk 2 uB:=ls BQ (aC lP aN)
def nn:T3j->Option (T3j⊕((Int×Unit)⊕(Int×ByteArray×Int×Int×Bool×T34))):=λ(v0,v1,v2,v3,v4,v5,v6,v7,v8,v9,v10,v11,v12,v13,v14)=>
bif decide (v3 < v2) then ((ee v3).bind λx0=>
(Cm v1 x0).bind λx1=>
(ee v3).bind λx2=>
(dO v13 x2).bind λx3=>
(mX x1 x3.1).bind λ(x4,_)=>
bif (!x4) then (some (.inr (.inl (6,())))) else
let x5:=w64 (v3+1);
some (.inl (v0,v1,v2,x5,v4,v5,v6,v7,v8,v9,v10,v11,v12,v13,v14))) else
some (.inr (.inr (v0,v1,v2,v3,false,v4,v5,v6,v7,v8,v9,v10,v11,v12,v13,v14)))
def nH(a0:LDIn) (a1:List (Int)) (a2:List LI) (a3:List (Int)) (a4:Int) (a5:LDCe) (a6:LDLn) (a7:LDTh) (a8:Int):Option (Int×Unit):=
(ee a8).bind λx0=>
(dO a7 x0).bind λx1=>
let x2:=w64 (x1.2.2.1 - 1);
(ee x2).bind λx3=>
(dO a0 x3).bind λx4=>
(ln x4.2.2.2.2).bind λ(x5,_)=>
let x6:=C4 x5;
(match dW nn NN (x4.2.2.2.2,x5,x6,0,a0,a1,a2,a3,a4,a5,a6,a7,x1.1,x1.2.1,x1.2.2.1,x1.2.2.2.1,x1.2.2.2.2.1,x1.2.2.2.2.2.1,x1.2.2.2.2.2.2.1,x1.2.2.2.2.2.2.2,()) with
| none=>none
| some (.inl (x7,_))=>
some (x7,())
| some (.inr (x7,x8,x9,ac,ae,af,ag,ah,ai,aj,ak,am,an,ap,aq,_))=>
(jc x7).bind λ(aD,_)=>
bif decide (aD > 0) then ((dO aq 1).bind λaE=>
(dO aq 2).bind λaF=>
let aG:=wk .i64 aF.2;
(mF ai aj ag aE.1 aE.2 aG).bind λ(aH,aI,_)=>
bif (aI != 0) then (some (6,())) else
(dO aq 2).bind λaJ=>
bif decide (aJ.2 > 16) then (some (6,())) else
(bif (x7==10) then ((dO aq 0).bind λaK=>
let aL:=wk .i64 aK.2;
let aM:=dQ af.length;
some ((decide (aL>=aM)),())) else
bif (x7==12) then ((dO aq 0).bind λaK=>
let aL:=wk .i64 aK.2;
let aM:=dQ af.length;
some ((decide (aL>=aM)),())) else
some (false,()):Option (Bool×Unit)).bind λ(aK,_)=>
bif aK then (some (6,())) else
some (0,())) else
(bif (x7==10) then ((dO aq 0).bind λaE=>
let aF:=wk .i64 aE.2;
let aG:=dQ af.length;
some ((decide (aF>=aG)),())) else
bif (x7==12) then ((dO aq 0).bind λaE=>
let aF:=wk .i64 aE.2;
let aG:=dQ af.length;
some ((decide (aF>=aG)),())) else
some (false,()):Option (Bool×Unit)).bind λ(aE,_)=>
bif aE then (some (6,())) else
some (0,()))
def D6:X.Cfg:=⟨E0,[n6,to,kg,uB],[],[⟨6,0,qS [zaa 3,zaa 4,zaa 7,Uaa 8,sP 9 .str,Uaa 29,Uaa 30] [(8,uab),(10,yac),(16,Zad)],[(.ret,qS [Uaa 6] []),(.exit 0,qS [zaa 3,zaa 4,zaa 7,Uaa 8,sP 9 .str,Uaa 29,Uaa 30,Xaa 31] [(8,uab),(10,yac),(16,Zad)])]⟩,⟨19,1,qE,[(.normal,qS [Xaa 93] [])]⟩]⟩
def wn:Ctr:=⟨159,69,[.agg uab,.agg yac,shU I64],[],[⟨Uac,[.one],[]⟩],ap9 nH⟩
theorem Dw:Lk 3 wn:=ls D6 (aC re (aC xW (aC mO (aC Bv aN))))
def mE(a0:Int) (a1:LDCe) (a2:Int) (a3:Int) (a4:Int) (a5:Int) (a6:Int) (a7:Int):Option (T1R):=
bif (d9 4 0 a1.length) then let x0:LDCe:=(List.append [] a1);
some (a0,x0,a2,a3,a4,a5,a6,a7,()) else none
def BO:X.Cfg:=⟨E0,[],[],[]⟩
def uA:Ctr:=⟨174,70,[.agg Zad],[],[⟨Zaf,[.agg 8],[]⟩],ap8 mE⟩
theorem Bu:Lk 1 uA:=ls BO aN
def ou(a0:Int) (a1:LDCe) (a2:Int) (a3:Int) (a4:Int) (a5:Int) (a6:Int) (a7:Int) (a8:Int) (a9:Int):Option (T1R):=
(mE a0 a1 a2 a3 a4 a5 a6 a7).bind λ(x0,x1,x2,x3,x4,x5,_)=>
some (4,x1,x2,x3,x4,x5,a8,a9,())
def If:X.Cfg:=⟨E0,[uA],[],[]⟩
def u3:Ctr:=⟨160,71,[.agg Zad,shU I64,shU CW],[],[⟨Zaf,[.agg 8],[]⟩],ap10 ou⟩
theorem Am:Lk 2 u3:=ls If (aC Bu aN)
def ix(a0:Int):Option (Int×Unit):=
bif decide (a0 < 0) then (some ((-1),())) else
bif decide (a0 > 15) then (some ((-1),())) else
(ln a0).bind λ(x0,_)=>
let x1:=C4 x0;
some (x1,())
def xw:X.Cfg:=⟨E0,[n6],[],[]⟩
def mu:Ctr:=⟨161,72,Uac,[],[⟨Uac,[.one],[]⟩],ap1 ix⟩
theorem qw:Lk 2 mu:=ls xw (aC re aN)
def iR(a0:List (Int)) (a1:Int) (a2:List (Int)) (a3:Int) (a4:Int):Option (T0u):=
bif (a3==0) then (some (0,a4,0,0,())) else
bif (a3==2) then (let x0:Int:=(wk .u16 (a4 - a1));
some (2,x0,0,0,())) else
let x0:=wk .i64 a4;
(fG a0 a1 a2 x0).bind λ(x1,x2,x3,_)=>
bif x3 then (some (1,0,x1,x2,())) else
let x4:=wk .i64 a4;
some (1,0,(-1),x4,())
def Em:X.Cfg:=⟨E0,[jD],[],[]⟩
def n9:Ctr:=⟨31,73,[.agg yab,shU RI,.agg uac],[],[⟨zaf,[.agg 4],[]⟩],ap5 iR⟩
theorem ri:Lk 2 n9:=ls Em (aC lP aN)
def mZ(a0:LDCe) (a1:LDLn) (a2:Int):Option (T02):=
let x0:=w64 (Int.tdiv a2 4);
let x1:=Int.tmod x0 4;
(ee x1).bind λx2=>
(dO a1 x2).bind λx3=>
bif (x3.1==x0) then (let x4:Int:=(Int.tmod a2 4);
(ee x4).bind λx5=>
(dO x3.2.2 x5).bind λx6=>
some (x6.1,x6.2,())) else
(ee a2).bind λx4=>
(dO a0 x4).bind λx5=>
some (x5.1,x5.2,())
def Gv:X.Cfg:=⟨E0,[],[],[]⟩
def tC:Ctr:=⟨82,74,[.agg Xad,shU I64],[],[⟨uac,[.agg 2],[]⟩],ap3 mZ⟩
theorem yb:Lk 1 tC:=ls Gv aN
def jt:T3Z->Option (T3Z⊕(Int×Int×T3U)):=λ(v0,v1,v2,v3,v4,v5,v6,v7,v8,v9,v10,v11,v12,v13,v14,v15,v16,v17,v18,v19,v20,v21,v22,v23,v24,v25,v26,v27,v28,v29,v30,v31,v32,v33,v34,v35,v36,v37,v38,_)=>
bif decide (v1 < v0) then ((ee v1).bind λx0=>
(dO v24 x0).bind λx1=>
(iR v18 v19 v3 x1.1 x1.2).bind λ(x2,x3,x4,x5,_)=>
let x6:LDCn:=[(x2,(x3,(x4,x5)))];
bif (d9 24 v37.length x6.length) then let x7:LDCn:=(List.append v37 x6);
let x8:=w64 (v1+1);
some (.inl (v0,x8,v2,v3,v4,v5,v6,v7,v8,v9,v10,v11,v12,v13,v14,v15,v16,v17,v18,v19,v20,v21,v22,v23,v24,v25,v26,v27,v28,v29,v30,v31,v32,v33,v34,v35,v36,x7,v38,())) else none) else
some (.inr (v0,v1,false,v2,v3,v4,v5,v6,v7,v8,v9,v10,v11,v12,v13,v14,v15,v16,v17,v18,v19,v20,v21,v22,v23,v24,v25,v26,v27,v28,v29,v30,v31,v32,v33,v34,v35,v36,v37,v38,()))
def jq:T3Y->Option (T3Y⊕T42):=λ(v0,v1,v2,v3,v4,v5,v6,v7,v8,v9,v10,v11,v12,v13,v14,v15,v16,v17,v18,v19,v20,v21,v22,v23,v24,v25,v26,v27,v28,v29,v30,v31,v32,v33,v34,v35,v36,v37,v38,_)=>
bif decide (v1 < v0) then ((dO v24 1).bind λx0=>
let x1:=wk .i64 x0.2;
let x2:=w64 (x1+v1);
(mZ v20 v21 x2).bind λ(x3,x4,_)=>
(iR v18 v19 v3 x3 x4).bind λ(x5,x6,x7,x8,_)=>
let x9:LDCn:=[(x5,(x6,(x7,x8)))];
bif (d9 24 v38.length x9.length) then let ac:LDCn:=(List.append v38 x9);
let ae:=w64 (v1+1);
some (.inl (v0,ae,v2,v3,v4,v5,v6,v7,v8,v9,v10,v11,v12,v13,v14,v15,v16,v17,v18,v19,v20,v21,v22,v23,v24,v25,v26,v27,v28,v29,v30,v31,v32,v33,v34,v35,v36,v37,ac,())) else none) else
some (.inr (v0,v1,false,v2,v3,v4,v5,v6,v7,v8,v9,v10,v11,v12,v13,v14,v15,v16,v17,v18,v19,v20,v21,v22,v23,v24,v25,v26,v27,v28,v29,v30,v31,v32,v33,v34,v35,v36,v37,v38,()))
def mY(a0:LDIn) (a1:List (Int)) (a2:List LI) (a3:List (Int)) (a4:Int) (a5:LDCe) (a6:LDLn) (a7:LDTh) (a8:Int) (a9:Int):Option (LI×Int×LDCe×LDLn×LDTh×T21):=
(nI a0 a1 a2 a3 a4 a5 a6 a7 a8 a9).bind λ(x0,x1,x2,x3,x4,x5,x6,_)=>
bif (x6 != 0) then (some ([],0,[],[],[],0,0,0,0,0,0,[],[],x6,())) else
(ee a8).bind λx7=>
(dO x4 x7).bind λx8=>
(dO x4 x7).bind λx9=>
(dO x4 x7).bind λac=>
(match (bif (x5==2) then (some (.inl ((),0,(),(),(),0,0,0,0,0,0,(),(),x0,x1,x2,x3,x4,a8,x5,x9.2.2.2.2.2.2.1,x9.2.2.2.1,x9.2.2.1,0,(),(),()))) else
bif (x5==1) then ((nH a0 a1 a2 x0 x1 x2 x3 x4 a8).bind λ(ae,_)=>
bif (ae != 0) then ((ou x9.1 ac.2.1 x9.2.2.1 x9.2.2.2.1 x9.2.2.2.2.1 x9.2.2.2.2.2.1 x9.2.2.2.2.2.2.1 x9.2.2.2.2.2.2.2 ae 0).bind λ(af,ag,ah,ai,aj,ak,am,an,_)=>
(ee a8).bind λap=>
(dO x4 ap).bind λaq=>
(dO x4 ap).bind λav=>
let ax:=(List.modify x4 ap λe=>(af,(ag,(ah,(ai,(aj,(ak,(am,an))))))));
some (.inl ((),0,(),(),(),0,0,0,0,0,0,(),(),x0,x1,x2,x3,ax,a8,2,ae,x9.2.2.2.1,x9.2.2.1,0,(),(),()))) else
let af:=w64 (x9.2.2.1 - 1);
(ee af).bind λag=>
(dO a0 ag).bind λah=>
(ix ah.2.2.2.2).bind λ(ai,_)=>
(dW jt NN (ai,0,a0,a1,a2,(),0,(),(),(),0,0,0,0,0,0,(),(),x0,x1,x2,x3,x4,x9.1,ac.2.1,x9.2.2.1,x9.2.2.2.1,x9.2.2.2.2.1,x9.2.2.2.2.2.1,x9.2.2.2.2.2.2.1,x9.2.2.2.2.2.2.2,a8,x5,0,x9.2.2.2.1,x9.2.2.1,ah.2.2.2.2,[],(),())).bind λ(aj,ak,am,an,ap,aq,av,ax,ay,az,aA,aB,aD,aE,aF,aG,aH,aI,aJ,aK,aL,aM,aO,aP,aQ,aR,aS,aT,aU,aV,aW,aY,aZ,ba,bc,bd,bf,bg,bh,bi,_)=>
(jc bg).bind λ(bj,_)=>
bif (bj==1) then ((dO aR 2).bind λbk=>
let bm:=wk .i64 bk.2;
(dW jq NN (bm,0,an,ap,aq,av,ax,ay,az,aA,aB,aD,aE,aF,aG,aH,aI,aJ,aK,aL,aM,aO,aP,aQ,aR,aS,aT,aU,aV,aW,aY,aZ,ba,bc,bd,bf,bg,bh,[],())).bind λ(bn)=>
some (.inr (.inl (bn)))) else
some (.inr (.inr (.inl (false,an,ap,aq,av,ax,ay,az,aA,aB,aD,aE,aF,aG,aH,aI,aJ,aK,aL,aM,aO,aP,aQ,aR,aS,aT,aU,aV,aW,aY,aZ,ba,bc,bd,bf,bg,bh,bi,()))))) else
some (.inr (.inr (.inr (a8,false,a0,a1,a2,(),0,(),(),(),0,0,0,0,0,0,(),(),x0,x1,x2,x3,x4,x9.1,ac.2.1,x9.2.2.1,x9.2.2.2.1,x9.2.2.2.2.1,x9.2.2.2.2.2.1,x9.2.2.2.2.2.2.1,x9.2.2.2.2.2.2.2,a8,x5,0,x9.2.2.2.1,x9.2.2.1,0,(),(),())))):Option ((Unit×Int×Unit×Unit×Unit×Int×Int×Int×Int×Int×Int×Unit×Unit×LI×Int×LDCe×LDLn×LDTh×T1M)⊕(T42⊕(T3U⊕(Int×Bool×LDIn×LI×LLI×Unit×Int×Unit×Unit×Unit×Int×Int×Int×Int×Int×Int×Unit×Unit×LI×Int×LDCe×LDLn×LDTh×Int×LDCe×Int×Int×Int×Int×Int×Int×T1M))))) with
| none=>none
| some (.inl (ae,af,ag,ah,ai,aj,ak,am,an,ap,aq,av,ax,ay,az,aA,aB,aD,aE,aF,aG,aH,aI,aJ,aK,aL,_))=>
some (ay,az,aA,aB,aD,aE,aF,aG,aH,aI,aJ,[],[],0,())
| some (.inr (.inl (ae,af,ag,ah,ai,aj,ak,am,an,ap,aq,av,ax,ay,az,aA,aB,aD,aE,aF,aG,aH,aI,aJ,aK,aL,aM,aO,aP,aQ,aR,aS,aT,aU,aV,aW,aY,aZ,ba,bc,_)))=>
some (aF,aG,aH,aI,aJ,aT,aU,aV,aW,aY,aZ,ba,bc,0,())
| some (.inr (.inr (.inl (ae,af,ag,ah,ai,aj,ak,am,an,ap,aq,av,ax,ay,az,aA,aB,aD,aE,aF,aG,aH,aI,aJ,aK,aL,aM,aO,aP,aQ,aR,aS,aT,aU,aV,aW,aY,aZ,_))))=>
some (aD,aE,aF,aG,aH,aR,aS,aT,aU,aV,aW,aY,[],0,())
| some (.inr (.inr (.inr (ae,af,ag,ah,ai,aj,ak,am,an,ap,aq,av,ax,ay,az,aA,aB,aD,aE,aF,aG,aH,aI,aJ,aK,aL,aM,aO,aP,aQ,aR,aS,aT,aU,aV,aW,aY,aZ,ba,_))))=>
some (aE,aF,aG,aH,aI,aS,aT,aU,aV,aW,aY,[],[],0,()))
def Gj:X.Cfg:=⟨E0,[wo,wn,u3,mu,n9,kg,tC],[],[⟨19,0,qS [zaa 4,zaa 8,zaa 9,zaa 11,zaa 14,zaa 15,Uaa 80,Uaa 81] [(10,uab),(18,Zab),(20,uag),(24,uah),(30,Zad),(32,Xaj)],[(.exit 1,qS [zaa 4,zaa 8,zaa 9,zaa 11,zaa 14,zaa 15,Uaa 80,Uaa 81,Xaa 82] [(10,uab),(18,Zab),(20,uag),(24,uah),(30,Zad),(32,Xaj)])]⟩,⟨26,1,qS [zaa 4,zaa 8,zaa 9,zaa 11,zaa 14,zaa 15,Uaa 109,Uaa 110] [(10,uab),(18,Zab),(20,uag),(24,uah),(30,Zad),(32,Zaj)],[(.exit 3,qS [zaa 4,zaa 8,zaa 9,zaa 11,zaa 14,zaa 15,Uaa 109,Uaa 110,Xaa 111] [(10,uab),(18,Zab),(20,uag),(24,uah),(30,Zad),(32,Zaj)])]⟩,⟨7,2,qE,[(.normal,qS [zaa 8,zaa 9,zaa 11,zaa 15] [(18,Zab),(20,uag),(24,uah),(32,uag)]),(.normal,qS [zaa 4,zaa 8,zaa 9,zaa 11,zaa 14,zaa 15,Uaa 109,Uaa 110,Xaa 111] [(10,uab),(18,Zab),(20,uag),(24,uah),(30,Zad),(32,Zaj)]),(.normal,qS [zaa 4,zaa 8,zaa 9,zaa 11,zaa 14,zaa 15,Xaa 103] [(10,uab),(18,Zab),(20,uag),(24,uah),(30,Zad),(32,Xaj)]),(.normal,qS [Uaa 2,zaa 4,zaa 8,zaa 9,zaa 11,zaa 14,zaa 15,Xaa 51] [(10,uab),(18,Zab),(20,uag),(24,uah),(30,Zad),(32,uag)])]⟩]⟩
def yw:Ctr:=⟨130,75,[.agg uab,.agg yac,shU I64,shU I64],[],[⟨uL [RI,CW,fq,fV,gD,I64,I64,I64,I64,I64,I64,ej,ej,I64],[.agg 5,.agg 8,.one],[]⟩],ap10 mY⟩
theorem FG:Lk 6 yw:=ls Gj (aC Dx (aC Dw (aC Am (aC qw (aC ri (aC mO (aC yb aN)))))))
def jp:T2g->Option (T2g⊕T2q):=λ(v0,v1,v2,v3,v4,v5,v6,v7,v8,_)=>
bif decide (v2 < v1) then ((ee v2).bind λx0=>
(dO v0 x0).bind λx1=>
bif (d9 8 0 x1.length) then let x2:List (Int):=(List.append [] x1);
bif (d9 24 v8.length (List.length [x2])) then let x3:List LI:=(List.append v8 [x2]);
let x4:=w64 (v2+1);
some (.inl (v0,v1,x4,v3,v4,v5,v6,v7,x3,())) else none else none) else
some (.inr (v0,v1,v2,false,v3,v4,v5,v6,v7,v8,()))
def mV(a0:List (Int)) (a1:List LI):Option (T08):=
bif (d9 8 0 a0.length) then let x0:List (Int):=(List.append [] a0);
let x1:=dQ a1.length;
(dW jp NN (a1,x1,0,a0,a1,(),(),x0,[],())).bind λ(x2,x3,x4,x5,x6,x7,x8,x9,ac)=>
some (ac) else none
def Gf:X.Cfg:=⟨E0,[],[(21,(uaa I64)),(22,(uaa I64))],[(lx 4 0 [zaa 2,zaa 3,sP 11 (yaa RI),Uaa 12,Uaa 13] [(4,yaf),(6,Xab),(8,Uae)] 14)]⟩
def pM:Ctr:=⟨175,76,[.agg yaf],[],[⟨Uae,[.agg 2],[]⟩],ap2 mV⟩
theorem sR:Lk 1 pM:=ls Gf aN
def kK(a0:List (Int)) (a1:List LI) (a2:Int) (a3:Int):Option (LI×LLI×T01):=
(mV a0 a1).bind λ(x0,x1,_)=>
(bif decide (a2 < 0) then (some (a2,true,(),(),x0,x1,())) else
bif decide (a2>=4) then (some (a2,true,(),(),x0,x1,())) else
(ee a2).bind λx2=>
(dO a0 x2).bind λx3=>
some (a2,(x3 != a3),(),(),x0,x1,()):Option (T19)).bind λ(x2,x3,x4,x5,x6,x7,_)=>
bif x3 then (some (x6,x7,(-1),false,())) else
(ee x2).bind λx8=>
(dO x6 x8).bind λx9=>
(dO x6 x8).bind λac=>
let ae:=List.modify x6 x8 λe=>(-1);
(ee x2).bind λaf=>
(dO x7 af).bind λag=>
(dO x7 af).bind λah=>
(dO x7 af).bind λai=>
let aj:=dQ ai.length;
bif decide (aj > 0) then ((ee x2).bind λak=>
(dO x7 ak).bind λam=>
(dO x7 ak).bind λan=>
(dO x7 ak).bind λap=>
(dO ap 0).bind λaq=>
(dO x7 ak).bind λav=>
(dO av 0).bind λax=>
(ee x2).bind λay=>
(dO ae ay).bind λaz=>
(dO ae ay).bind λaA=>
let aB:=List.modify ae ay λe=>ax;
(ee x2).bind λaD=>
(dO x7 aD).bind λaE=>
(dO x7 aD).bind λaF=>
(dO x7 aD).bind λaG=>
bif (ir 1 aG.length aG.length) then (dO x7 aD).bind λaH=>
(ee x2).bind λaI=>
(dO x7 aI).bind λaJ=>
(dO x7 aD).bind λaK=>
(dO x7 aI).bind λaL=>
let aM:=(List.modify x7 aI λe=>(kU aK 1 (Nat.sub aG.length 1)));
(ee x2).bind λaO=>
(dO aB aO).bind λaP=>
some (aB,aM,aP,true,()) else none) else
(ee x2).bind λak=>
(dO ae ak).bind λam=>
some (ae,x7,am,true,())
def Gd:X.Cfg:=⟨E0,[pM],[],[⟨3,0,qE,[(.normal,qS [Uaa 1,zaa 6,zaa 9,Xaa 26] [(14,Xab),(20,Uae)])]⟩]⟩
def pL:Ctr:=⟨163,77,[.agg yaf,shU I64,shU I64],[],[⟨uL [RI,(yaa RI),I64,.bool],[.agg 2,.one,.one],[]⟩],ap4 kK⟩
theorem sQ:Lk 2 pL:=ls Gd (aC sR aN)
def eE(a0:Int) (a1:Bool):Option (T1y):=
(bif (!a1) then (some (65535,0,0,0,0,(),0,false,())) else
some (a0,0,0,0,0,(),0,false,()):Option (Int×T1y)).bind λ(x0,_)=>
let x8:=wk .u16 x0;
some (0,x8,0,0,(),(-1),false,())
def DT:X.Cfg:=⟨E0,[],[],[⟨1,0,qE,[(.normal,qS [Uaa 0,zaa 4] [(10,zae)])]⟩]⟩
def lX:Ctr:=⟨176,78,uL [I64,.bool],[],[⟨zae,[.agg 7],[]⟩],ap2 eE⟩
theorem nW:Lk 1 lX:=ls DT aN
def ot:T2V->Option (T2V⊕((Int×T08)⊕(Int×Int×LLI×Int×Int×LI×T1Y))):=λ(v0,v1,v2,v3,v4,v5,v6,v7,v8,v9,v10,v11,v12)=>
bif decide (v7 < v6) then ((ee v7).bind λx0=>
(dO v5 x0).bind λx1=>
bif (x1==v1) then (some (.inr (.inl (2,v12)))) else
let x2:=w64 (v7+1);
some (.inl (v0,v1,v2,v3,v4,v5,v6,x2,v8,v9,v10,v11,v12))) else
some (.inr (.inr (v0,v1,v2,v3,v4,v5,v6,v7,false,v8,v9,v10,v11,v12)))
def oq:T2v->Option (T2v⊕((Int×T08)⊕(Int×Int×T2q))):=λ(v0,v1,v2,v3,v4,v5)=>
bif decide (v4 < v3) then ((ee v4).bind λx0=>
(dO v2 x0).bind λx1=>
let x2:=dQ x1.length;
(match dW ot NN (v0,v1,v2,v3,v4,x1,x2,0,v5) with
| none=>none
| some (.inl (x3,x4,x5,_))=>
some (.inr (.inl (x3,x4,x5,())))
| some (.inr (x3,x4,x5,x6,x7,x8,x9,ac,ae,af))=>
let am:=w64 (x7+1);
some (.inl (x3,x4,x5,x6,am,af)))) else
some (.inr (.inr (v0,v1,v2,v3,v4,false,v5)))
def ph(a0:List (Int)) (a1:List LI) (a2:Int) (a3:Int):Option (LI×LLI×Int×Unit):=
(mV a0 a1).bind λ(x0,x1,_)=>
(bif decide (a2 < 0) then (some (a2,a3,true,a0,a1,(),(),x0,x1,())) else
bif decide (a2>=4) then (some (a2,a3,true,a0,a1,(),(),x0,x1,())) else
(ee a2).bind λx2=>
(dO a0 x2).bind λx3=>
some (a2,a3,(x3==a3),a0,a1,(),(),x0,x1,()):Option (T1Y)).bind λ(x2,x3,x4,x5,x6,x7,x8,x9,ac,_)=>
bif x4 then (some (x9,ac,2,())) else
let ae:=dQ x6.length;
(match dW oq NN (x2,x3,x6,ae,0,x5,x6,x7,x8,x9,ac,()) with
| none=>none
| some (.inl (af,ag,ah,_))=>
some (ag,ah,af,())
| some (.inr (af,ag,ah,ai,aj,ak,am,an,ap,aq,av,ax,_))=>
(ee af).bind λay=>
(dO am ay).bind λaz=>
bif (az==(-1)) then ((ee af).bind λaA=>
(dO av aA).bind λaB=>
(dO av aA).bind λaD=>
let aE:=List.modify av aA λe=>ag;
some (aE,ax,0,())) else
(ee af).bind λaA=>
(dO ax aA).bind λaB=>
(dO ax aA).bind λaD=>
(dO ax aA).bind λaE=>
bif (d9 8 aE.length (List.length [ag])) then let aF:List (Int):=(List.append aE [ag]);
(ee af).bind λaG=>
(dO ax aG).bind λaH=>
(dO ax aG).bind λaI=>
bif (Nat.beq aG aA) then let aJ:List LI:=(List.modify ax aG λe=>aF);
some (av,aJ,1,()) else none else none)
def Gb:X.Cfg:=⟨E0,[pM],[],[⟨3,0,qE,[(.normal,qS [Uaa 1,Uaa 2,zaa 3,zaa 6,zaa 8,Xaa 29] [(8,yaf),(14,Xab),(18,Uae)])]⟩,⟨13,1,qS [Uaa 1,Uaa 2,zaa 3,zaa 6,zaa 8,sP 32 (yaa RI),Uaa 33,Uaa 34,sP 38 RI,Uaa 39,Uaa 40] [(8,yaf),(14,Xab),(18,Uae)],[(.ret,qS [zaa 6,Uaa 7] [(14,Uae)]),(.exit 2,qS [Uaa 1,Uaa 2,zaa 3,zaa 6,zaa 8,sP 32 (yaa RI),Uaa 33,Uaa 34,sP 38 RI,Uaa 39,Uaa 40,Xaa 41] [(8,yaf),(14,Xab),(18,Uae)])]⟩,⟨7,2,qS [Uaa 1,Uaa 2,zaa 3,zaa 6,zaa 8,sP 32 (yaa RI),Uaa 33,Uaa 34] [(8,yaf),(14,Xab),(18,Uae)],[(.ret,qS [zaa 6,Uaa 7] [(14,Uae)]),(.exit 0,qS [Uaa 1,Uaa 2,zaa 3,zaa 6,zaa 8,sP 32 (yaa RI),Uaa 33,Uaa 34,Xaa 35] [(8,yaf),(14,Xab),(18,Uae)])]⟩]⟩
def yu:Ctr:=⟨177,79,[.agg yaf,shU I64,shU I64],[],[⟨uL [(uaa I64),(uaa (uaa I64)),I64],[.agg 2,.one],[]⟩],ap4 ph⟩
theorem FE:Lk 2 yu:=ls Gb (aC sR aN)
def lp(a0:Int) (a1:Int) (a2:Int) (a3:Int) (a4:Int) (a5:Int) (a6:LDCn) (a7:LDCn):Option (Bool×Unit):=
bif decide (a0>=0) then (bif decide (a0 < 4) then (bif decide (a1>=0) then (bif decide (a1<=3) then (bif decide (a2>=0) then (bif decide (a2<=6) then (bif decide (a3>=0) then (bif decide (a3<=1099511627776) then (bif decide (a4>=0) then (bif decide (a4<=255) then (bif decide (a5>=0) then (bif decide (a5<=15) then ((fA a6 3).bind λ(x0,_)=>
bif x0 then ((fA a7 16).bind λ(x1,_)=>
some (x1,())) else
some (false,())) else
some (false,())) else
some (false,())) else
some (false,())) else
some (false,())) else
some (false,())) else
some (false,())) else
some (false,())) else
some (false,())) else
some (false,())) else
some (false,())) else
some (false,())) else
some (false,())
def D4:X.Cfg:=⟨E0,[ie],[],[]⟩
def rD:Ctr:=⟨179,80,[.agg Zac],[],[⟨zab,[.one],[]⟩],ap8 lp⟩
theorem vD:Lk 3 rD:=ls D4 (aC iX aN)
def sr(a0:Int):Option (Bool×Unit):=
bif decide (a0>=1) then (bif decide (a0<=7) then (some (true,())) else
bif (a0==13) then (some (true,())) else
some ((a0==14),())) else
bif (a0==13) then (some (true,())) else
some ((a0==14),())
def F3:X.Cfg:=⟨E0,[],[],[]⟩
def yn:Ctr:=⟨189,81,Uac,[],[⟨zab,[.one],[]⟩],ap1 sr⟩
theorem Fz:Lk 1 yn:=ls F3 aN
def i4:T2D->Option (T2D⊕((Bool×Unit)⊕(ByteArray×LDCn×Int×Int×Bool×T1L))):=λ(v0,v1,v2,v3,v4)=>
bif decide (v3 < v2) then ((ee v3).bind λx0=>
(dO v1 x0).bind λx1=>
(ee v3).bind λx2=>
(Cm v0 x2).bind λx3=>
(mX x3 x1.1).bind λ(x4,_)=>
bif (!x4) then (some (.inr (.inl (false,())))) else
let x5:=w64 (v3+1);
some (.inl (v0,v1,v2,x5,v4))) else
some (.inr (.inr (v0,v1,v2,v3,false,v4)))
def nG(a0:Int) (a1:Int) (a2:Int) (a3:Int) (a4:Int) (a5:Int) (a6:LDCn) (a7:LDCn):Option (Bool×Unit):=
(ln a5).bind λ(x0,_)=>
let x1:=C4 x0;
let x2:=dQ a6.length;
bif (x1 != x2) then (some (false,())) else
let x3:=dQ a6.length;
(match dW i4 NN (x0,a6,x3,0,a0,a1,a2,a3,a4,a5,a6,a7,()) with
| none=>none
| some (.inl (x4,_))=>
some (x4,())
| some (.inr (x4,_))=>
some (true,()))
def D5:X.Cfg:=⟨E0,[n6,to],[],[⟨7,0,qS [sP 3 .str,sP 16 ej,Uaa 17,Uaa 18] [(4,Zac)],[(.ret,qS [Xaa 2] []),(.exit 0,qS [sP 3 .str,sP 16 ej,Uaa 17,Uaa 18,Xaa 19] [(4,Zac)])]⟩]⟩
def wm:Ctr:=⟨190,82,[.agg Zac],[],[⟨zab,[.one],[]⟩],ap8 nG⟩
theorem Dv:Lk 2 wm:=ls D5 (aC re (aC xW aN))
def iL(a0:List LDCn) (a1:LDOp) (a2:Int):Option (Bool×Unit):=
bif decide (a2>=0) then (let x0:Int:=(dQ a1.length);
bif decide (a2 < x0) then ((ee a2).bind λx1=>
(dO a1 x1).bind λx2=>
some ((x2.1 != (-1)),())) else
some (false,())) else
some (false,())
def F6:X.Cfg:=⟨E0,[],[],[]⟩
def ne:Ctr:=⟨204,83,[.agg zad,shU I64],[],[⟨zab,[.one],[]⟩],ap3 iL⟩
theorem pF:Lk 1 ne:=ls F6 aN
def rS:T2y->Option (T2y⊕(LDCn×Nat×Int×Int×Int×Bool×T1t)):=λ(v0,v1,v2,v3,v4,v5,v6,v7,v8,v9,v10,_)=>
bif decide (v4 < v3) then (((dO v9 v1).bind λx0=>
let x1:=w64 (x0.2.1+v4);
let x2:=dQ v10.length;
bif decide (x1 < x2) then ((dO v9 v1).bind λx3=>
let x4:=w64 (x3.2.1+v4);
(ee v4).bind λx5=>
(dO v0 x5).bind λx6=>
(ee x4).bind λx7=>
(dO v10 x7).bind λx8=>
(dO v10 x7).bind λx9=>
let ac:=(List.modify v10 x7 λe=>(x6.1,(x6.2.1,(x6.2.2.1,x6.2.2.2))));
some (v0,v1,v2,v3,v4,v5,v6,v7,v8,v9,ac,())) else
(ee v4).bind λx3=>
(dO v0 x3).bind λx4=>
let x5:LDCn:=[(x4.1,(x4.2.1,(x4.2.2.1,x4.2.2.2)))];
bif (d9 24 v10.length x5.length) then let x6:LDCn:=(List.append v10 x5);
some (v0,v1,v2,v3,v4,v5,v6,v7,v8,v9,x6,()) else none:Option (T2y)).bind λ(x0,x1,x2,x3,x4,x5,x6,x7,x8,x9,ac,_)=>
let ae:=w64 (x4+1);
some (.inl (x0,x1,x2,x3,ae,x5,x6,x7,x8,x9,ac,()))) else
some (.inr (v0,v1,v2,v3,v4,false,v5,v6,v7,v8,v9,v10,()))
def nE(a0:List LDCn) (a1:LDOp) (a2:Int) (a3:LDCn):Option (LLCn×LDOp×T01):=
(hY a0 a1).bind λ(x0,x1,_)=>
((iL a0 a1 a2).bind λ(x2,_)=>
bif (!x2) then (some (a2,a3,true,(),(),x0,x1,())) else
(ee a2).bind λx3=>
(dO a1 x3).bind λx4=>
bif (!x4.2.2) then (some (a2,a3,true,(),(),x0,x1,())) else
let x5:=dQ a3.length;
(fA a3 x5).bind λ(x6,_)=>
some (a2,a3,(!x6),(),(),x0,x1,()):Option (Int×LDCn×T0R)).bind λ(x2,x3,x4,x5,x6,x7,x8,_)=>
bif x4 then (some (x7,x8,0,false,())) else
(ee x2).bind λx9=>
(dO x8 x9).bind λac=>
let ae:=dQ x3.length;
(dO x8 x9).bind λaf=>
let ag:=w64 (64 - af.2.1);
let ah:=mmR false ae ag;
(dO x8 x9).bind λai=>
(ee ai.1).bind λaj=>
(dO x7 aj).bind λak=>
(dO x7 aj).bind λam=>
(dO x7 aj).bind λan=>
(dW rS NN (x3,x9,ah,ah,0,x5,x6,x7,aj,x8,an,())).bind λ(ap,aq,av,ax,ay,az,aA,aB,aD,aE,aF,aG,_)=>
(dO aF aq).bind λaH=>
(ee aH.1).bind λaI=>
(dO aD aI).bind λaJ=>
(dO aD aI).bind λaK=>
bif (Nat.beq aI aE) then let aL:List LDCn:=(List.modify aD aI λe=>aG);
(dO aF aq).bind λaM=>
let aO:=w64 (aM.2.1+av);
(dO aF aq).bind λaP=>
let aQ:=(List.modify aF aq λe=>(e.1,(aO,e.2.2)));
some (aL,aQ,av,true,()) else none
def DW:X.Cfg:=⟨E0,[jC,ne,ie],[],[⟨3,0,qE,[(.normal,qS [Uaa 1,sP 2 ej,zaa 6,zaa 9,Xaa 35] [(14,Xab),(20,Xae)])]⟩,⟨13,1,qE,[(.normal,(qS [sP 2 ej,zaa 6,zaa 9,(10,.ptr ⟨20,1,[((),(3,0))]⟩ [0,0]),Uaa 11,Zaa 12 27,Uaa 57,Uaa 58] [(14,Xab),(20,[.gap (uaa KCn) () () 0,shU (uaa KOp)]),(27,Xag)]))]⟩,(lx 10 2 [sP 2 ej,zaa 6,zaa 9,(10,.ptr ⟨20,1,[((),(3,0))]⟩ [0,0]),Uaa 11,Zaa 12 27,Uaa 57,Uaa 58] [(14,Xab),(20,[.gap (uaa KCn) () () 0,shU (uaa KOp)]),(27,Xag)] 59)]⟩
def wg:Ctr:=⟨191,84,[.agg zad,shU I64,shU ej],[],[⟨uL [(uaa (uaa KCn)),(uaa KOp),I64,.bool],[.agg 2,.one,.one],[]⟩],ap4 nE⟩
theorem Dr:Lk 3 wg:=ls DW (aC kP (aC pF (aC iX aN)))
def pe(a0:List LDCn) (a1:LDOp) (a2:Int) (a3:Int):Option ((LLCn×LDOp×Unit×Bool×Unit)⊕(LLCn×LDOp×LDCn×Bool×Unit)):=
(hY a0 a1).bind λ(x0,x1,_)=>
((iL a0 a1 a2).bind λ(x2,_)=>
bif (!x2) then (some (a2,a3,true,a0,a1,(),(),x0,x1,())) else
bif decide (a3 < 0) then (some (a2,a3,true,a0,a1,(),(),x0,x1,())) else
(ee a2).bind λx3=>
(dO a1 x3).bind λx4=>
some (a2,a3,x4.2.2,a0,a1,(),(),x0,x1,()):Option (T1Z)).bind λ(x2,x3,x4,x5,x6,x7,x8,x9,ac,_)=>
bif x4 then (some (.inl (x9,ac,(),false,()))) else
(ee x2).bind λae=>
(dO ac ae).bind λaf=>
(dO ac ae).bind λag=>
(ee ag.1).bind λah=>
(dO x9 ah).bind λai=>
(dO x9 ah).bind λaj=>
(dO x9 ah).bind λak=>
let am:=dQ ak.length;
(dO ac ae).bind λan=>
let ap:=w64 (am - an.2.1);
let aq:=mmR false x3 ap;
(dO ac ae).bind λav=>
(dO ac ae).bind λax=>
let ay:=w64 (ax.2.1+aq);
(ee av.2.1).bind λaz=>
(ee ay).bind λaA=>
bif (ir az aA ak.length) then let aB:LDCn:=(kU ak az (Nat.sub aA az));
bif (d9 24 0 aB.length) then let aD:LDCn:=(List.append [] aB);
(dO ac ae).bind λaE=>
let aF:=w64 (aE.2.1+aq);
(dO ac ae).bind λaG=>
let aH:=(List.modify ac ae λe=>(e.1,(aF,e.2.2)));
some (.inr (x9,aH,aD,true,())) else none else none
def F8:X.Cfg:=⟨E0,[jC,ne],[],[⟨3,0,qE,[(.normal,qS [Uaa 1,Uaa 2,zaa 6,zaa 9,Xaa 31] [(8,zad),(14,Xab),(20,Xae)])]⟩]⟩
def yq:Ctr:=⟨192,85,[.agg zad,shU I64,shU I64],[],[⟨uL [(uaa (uaa KCn)),(uaa KOp),N1,.bool],[.agg 2,.one,.one],[]⟩,⟨uL [(uaa ej),(uaa KOp),(uaa KCn),.bool],[.agg 2,.one,.one],[]⟩],ap4 pe⟩
theorem FC:Lk 2 yq:=ls F8 (aC kP (aC pF aN))
def sw:T23->Option (T23⊕(Int×T1Z)):=λ(v0,v1,v2,v3,v4,v5)=>
let x0:=dQ v4.length;
bif decide (v2 < x0) then ((ee v2).bind λx1=>
(dO v4 x1).bind λx2=>
bif (x2.1 != (-1)) then (let x3:Int:=(w64 (v2+1));
some (.inl (v0,v1,x3,v3,v4,v5))) else
some (.inr (v0,v1,v2,false,v3,v4,v5))) else
some (.inr (v0,v1,v2,false,v3,v4,v5))
def su:T22->Option (T22⊕(Int×Int×T1K)):=λ(v0,v1,v2,v3,v4,v5,v6,v7,v8,_)=>
bif decide (v4 < v3) then (((ee v4).bind λx0=>
(dO v8 x0).bind λx1=>
(dO v8 x0).bind λx2=>
bif (x2.1==v0) then ((ee v4).bind λx3=>
(dO v8 x3).bind λx4=>
(dO v8 x3).bind λx5=>
let x6:=(List.modify v8 x3 λe=>(e.1,(0,e.2.2)));
some (v0,v1,v2,v3,v4,v5,v6,v7,x6,())) else
some (v0,v1,v2,v3,v4,v5,v6,v7,v8,()):Option (T22)).bind λ(x0,x1,x2,x3,x4,x5,x6,x7)=>
let x9:=w64 (x4+1);
some (.inl (x0,x1,x2,x3,x9,x5,x6,x7))) else
some (.inr (v0,v1,v2,v3,v4,false,v5,v6,v7,v8,()))
def pf(a0:List LDCn) (a1:LDOp) (a2:Int) (a3:Int):Option (LLCn×LDOp×Int×Unit):=
(hY a0 a1).bind λ(x0,x1,_)=>
(dW sw NN (a2,a3,0,a0,a1,(),(),x0,x1,())).bind λ(x2,x3,x4,x5,x6,x7,x8)=>
(bif decide (x2 < 0) then (some (x2,x3,x4,true,x8)) else
let af:=dQ x6.length;
bif decide (x2>=af) then (some (x2,x3,x4,true,x8)) else
bif decide (x3 < 0) then (some (x2,x3,x4,true,x8)) else
bif decide (x3 > 2) then (some (x2,x3,x4,true,x8)) else
let ag:=dQ x7.length;
some (x2,x3,x4,(x4==ag),x8):Option (T1K)).bind λ(af,ag,ah,ai,aj,ak,am,an,_)=>
bif ai then (some (am,an,(-1),())) else
bif (ag==1) then ((ee af).bind λap=>
(dO am ap).bind λaq=>
(dO am ap).bind λav=>
let ax:=List.modify am ap λe=>[];
let ay:=dQ an.length;
(dW su NN (af,ag,ah,ay,0,aj,ak,ax,an,())).bind λ(az,aA,aB,aD,aE,aF,aG,aH,aI,aJ,_)=>
(ee aB).bind λaK=>
(dO aJ aK).bind λaL=>
(dO aJ aK).bind λaM=>
let aO:=(List.modify aJ aK λe=>(az,(0,(decide (aA > 0)))));
(bif (aA==2) then ((ee az).bind λaP=>
(dO aI aP).bind λaQ=>
(dO aI aP).bind λaR=>
(dO aI aP).bind λaS=>
let aT:=dQ aS.length;
(ee aB).bind λaU=>
(dO aO aU).bind λaV=>
(dO aO aU).bind λaW=>
let aY:=(List.modify aO aU λe=>(e.1,(aT,e.2.2)));
some (aB,aG,aH,aI,aY,())) else
some (aB,aG,aH,aI,aO,()):Option (T0W)).bind λ(aP,aQ,aR,aS,aT,_)=>
some (aS,aT,aP,())) else
(ee ah).bind λap=>
(dO an ap).bind λaq=>
(dO an ap).bind λav=>
let ax:=(List.modify an ap λe=>(af,(0,(decide (ag > 0)))));
(bif (ag==2) then ((ee af).bind λay=>
(dO am ay).bind λaz=>
(dO am ay).bind λaA=>
(dO am ay).bind λaB=>
let aD:=dQ aB.length;
(ee ah).bind λaE=>
(dO ax aE).bind λaF=>
(dO ax aE).bind λaG=>
let aH:=(List.modify ax aE λe=>(e.1,(aD,e.2.2)));
some (ah,aj,ak,am,aH,())) else
some (ah,aj,ak,am,ax,()):Option (T0W)).bind λ(ay,az,aA,aB,aD,_)=>
some (aB,aD,ay,())
def F9:X.Cfg:=⟨E0,[jC],[],[(lx 4 0 [Uaa 1,Uaa 2,zaa 3,zaa 6,zaa 8,Uaa 9] [(8,zad),(14,Xab),(18,Xae)] 26),⟨8,1,qE,[(.normal,qS [Uaa 1,Uaa 2,zaa 6,zaa 8,Uaa 9,Xaa 52] [(14,Xab),(18,Xae)])]⟩,⟨17,2,qE,[(.normal,qS [Uaa 1,Uaa 2,zaa 6,zaa 8,Uaa 9,Uaa 62,Uaa 63] [(14,Xab),(18,Xae)])]⟩,⟨14,3,qS [Uaa 1,Uaa 2,zaa 6,zaa 8,Uaa 9,Uaa 62,Uaa 63] [(14,Xab),(18,Xae)],[(.exit 2,qS [Uaa 1,Uaa 2,zaa 6,zaa 8,Uaa 9,Uaa 62,Uaa 63,Xaa 64] [(14,Xab),(18,Xae)])]⟩,⟨21,4,qE,[(.normal,qS [zaa 6,zaa 8,Uaa 9] [(14,Xab),(18,Xae)])]⟩]⟩
def yr:Ctr:=⟨193,86,[.agg zad,shU I64,shU I64],[],[⟨Uak,[.agg 2,.one],[]⟩],ap4 pf⟩
theorem FD:Lk 2 yr:=ls F9 (aC kP aN)
def nF(a0:List LDCn) (a1:LDOp) (a2:Int):Option (LLCn×LDOp×Bool×Unit):=
(hY a0 a1).bind λ(x0,x1,_)=>
(iL a0 a1 a2).bind λ(x2,_)=>
bif (!x2) then (some (x0,x1,false,())) else
(ee a2).bind λx3=>
(dO x1 x3).bind λx4=>
(dO x1 x3).bind λx5=>
let x6:=(List.modify x1 x3 λe=>((-1),(0,false)));
some (x0,x6,true,())
def DY:X.Cfg:=⟨E0,[jC,ne],[],[]⟩
def wh:Ctr:=⟨194,87,[.agg zad,shU I64],[],[⟨ual,[.agg 2,.one],[]⟩],ap3 nF⟩
theorem Ds:Lk 2 wh:=ls DY (aC kP (aC pF aN))
def pd(a0:List LDCn) (a1:LDOp) (a2:Int) (a3:Int):Option (LLCn×LDOp×Bool×Unit):=
(hY a0 a1).bind λ(x0,x1,_)=>
((iL a0 a1 a2).bind λ(x2,_)=>
bif (!x2) then (some (a2,a3,true,(),(),x0,x1,())) else
bif decide (a3 < 0) then (some (a2,a3,true,(),(),x0,x1,())) else
(ee a2).bind λx3=>
(dO a1 x3).bind λx4=>
(ee x4.1).bind λx5=>
(dO a0 x5).bind λx6=>
let x7:=dQ x6.length;
some (a2,a3,(decide (a3 > x7)),(),(),x0,x1,()):Option (T1w)).bind λ(x2,x3,x4,x5,x6,x7,x8,_)=>
bif x4 then (some (x7,x8,false,())) else
(ee x2).bind λx9=>
(dO x8 x9).bind λac=>
(dO x8 x9).bind λae=>
let af:=(List.modify x8 x9 λe=>(e.1,(x3,e.2.2)));
some (x7,af,true,())
def F7:X.Cfg:=⟨E0,[jC,ne],[],[⟨3,0,qE,[(.normal,qS [Uaa 1,Uaa 2,zaa 6,zaa 8,Xaa 33] [(14,Xab),(18,Xae)])]⟩]⟩
def yp:Ctr:=⟨195,88,[.agg zad,shU I64,shU I64],[],[⟨ual,[.agg 2,.one],[]⟩],ap4 pd⟩
theorem FB:Lk 2 yp:=ls F7 (aC kP (aC pF aN))
def pb(a0:LDOu) (a1:Int) (a2:LDCn):Option (LDOu×T01):=
(kJ a0).bind λ(x0,_)=>
(bif decide (a1 < 0) then (some (a0,a1,a2,true,x0,())) else
bif decide (a1>=2) then (some (a0,a1,a2,true,x0,())) else
let x1:=dQ a0.length;
bif decide (x1>=200) then (some (a0,a1,a2,true,x0,())) else
let x2:=dQ a2.length;
some (a0,a1,a2,(decide (x2 > 16)),x0,()):Option (LDOu×Int×LDCn×Bool×LDOu×Unit)).bind λ(x1,x2,x3,x4,x5,_)=>
bif x4 then (some (x5,0,false,())) else
let x6:=dQ x1.length;
bif (d9 24 0 x3.length) then let x7:LDCn:=(List.append [] x3);
let x8:LDOu:=[(x6,(x2,x7))];
bif (d9 40 x5.length x8.length) then let x9:LDOu:=(List.append x5 x8);
let ac:=dQ x3.length;
some (x9,ac,true,()) else none else none
def F4:X.Cfg:=⟨E0,[te],[(36,IN),(37,IN)],[⟨3,0,qE,[(.normal,qS [sP 0 j5,Uaa 1,sP 2 ej,Zaa 9 21,Xaa 27] [(21,zaj)])]⟩]⟩
def yo:Ctr:=⟨196,89,uL [j5,I64,ej],[],[⟨uL [(uaa IN),I64,.bool],[.one,.one,.one],[]⟩],ap3 pb⟩
theorem FA:Lk 2 yo:=ls F4 (aC xU aN)
def hU:T1A->Option (T1A⊕(Int×Int×LI×Int×Int×Bool×LLI×LDCn×Unit)):=λ(v0,v1,v2,v3,v4,v5,v6,_)=>
bif decide (v4 < v3) then ((ee v4).bind λx0=>
(dO v2 x0).bind λx1=>
let x2:LDCn:=[(0,(x1,(0,0)))];
bif (d9 24 v6.length x2.length) then let x3:LDCn:=(List.append v6 x2);
let x4:=w64 (v4+1);
some (.inl (v0,v1,v2,v3,x4,v5,x3,())) else none) else
some (.inr (v0,v1,v2,v3,v4,false,v5,v6,()))
def lf(a0:List LI) (a1:Int) (a2:Int):Option ((LLI×Unit×Bool×Unit)⊕(LLI×LDCn×Bool×Unit)):=
(gk a0).bind λ(x0,_)=>
(bif decide (a1 < 0) then (some (a0,a1,a2,true,x0,())) else
let x1:=dQ a0.length;
bif decide (a1>=x1) then (some (a0,a1,a2,true,x0,())) else
some (a0,a1,a2,(decide (a2 < 0)),x0,()):Option (LLI×Int×Int×Bool×LLI×Unit)).bind λ(x1,x2,x3,x4,x5,_)=>
bif x4 then (some (.inl (x5,(),false,()))) else
(ee x2).bind λx6=>
(dO x1 x6).bind λx7=>
let x8:=dQ x7.length;
let x9:=mmR false x3 x8;
(ee x2).bind λac=>
(dO x1 ac).bind λae=>
(ee x9).bind λaf=>
bif (ir 0 af ae.length) then let ag:List (Int):=(kU ae 0 (Nat.sub af 0));
let ah:=dQ ag.length;
(dW hU NN (x2,x9,ag,ah,0,x5,[],())).bind λ(ai,aj,ak,am,an,ap,aq,av,_)=>
(ee ai).bind λax=>
(dO aq ax).bind λay=>
(dO aq ax).bind λaz=>
(dO aq ax).bind λaA=>
(ee aj).bind λaB=>
bif (ir aB aA.length aA.length) then (dO aq ax).bind λaD=>
(ee ai).bind λaE=>
(dO aq aE).bind λaF=>
(dO aq ax).bind λaG=>
(dO aq aE).bind λaH=>
let aI:=(List.modify aq aE λe=>(kU aG aB (Nat.sub aA.length aB)));
some (.inr (aI,av,true,())) else none else none
def Az:X.Cfg:=⟨E0,[jk],[],[⟨3,0,qE,[(.normal,qS [sP 0 (yaa RW),Uaa 1,Uaa 2,Zaa 9 21,Xaa 27] [(21,Uai)])]⟩,(lx 9 1 [Uaa 1,Zaa 9 21,Uaa 10,Zaa 11 25,sP 41 RW,Uaa 42,Uaa 43] [(21,Uai),(25,Xag)] 44)]⟩
def s9:Ctr:=⟨197,90,uL [(yaa RW),I64,I64],[],[⟨uL [(uaa (uaa CW)),N1,.bool],[.one,.one,.one],[]⟩,⟨uL [(uaa RW),(uaa KCn),.bool],[.one,.one,.one],[]⟩],ap3 lf⟩
theorem Ah:Lk 2 s9:=ls Az (aC lO aN)
def vg:T3Q->Option (T3Q⊕(LDCn×Int×Int×Bool×T3I)):=λ(v0,v1,v2,v3,v4,v5,v6,v7,v8,v9,v10,v11,v12,v13,v14,v15,v16,v17,v18,v19,v20,v21,v22,v23,v24,v25,v26,v27,v28,v29,v30,v31,v32,v33,v34,v35,v36,_)=>
bif decide (v2 < v1) then ((ee v2).bind λx0=>
(dO v0 x0).bind λx1=>
let x2:=wk .i64 x1.2.1;
(ee v2).bind λx3=>
(dO v36 x3).bind λx4=>
(dO v36 x3).bind λx5=>
let x6:=List.modify v36 x3 λe=>x2;
let x7:=w64 (v2+1);
some (.inl (v0,v1,x7,v3,v4,v5,v6,v7,v8,v9,v10,v11,v12,v13,v14,v15,v16,v17,v18,v19,v20,v21,v22,v23,v24,v25,v26,v27,v28,v29,v30,v31,v32,v33,v34,v35,x6,()))) else
some (.inr (v0,v1,v2,false,v3,v4,v5,v6,v7,v8,v9,v10,v11,v12,v13,v14,v15,v16,v17,v18,v19,v20,v21,v22,v23,v24,v25,v26,v27,v28,v29,v30,v31,v32,v33,v34,v35,v36,()))
def qe(a0:List (Int)) (a1:List (Int)) (a2:List LI) (a3:List LDCn) (a4:LDOp) (a5:LDOu) (a6:Int) (a7:Int) (a8:Int) (a9:Int) (a10:Int) (a11:Int) (a12:LDCn) (a13:LDCn):Option (LI×LI×LLI×LLCn×LDOp×LDOu×Int×Int×Int×Int×LDCn×Int×Bool×Int×Unit):=
((jK a0 a1 a2 a3 a4 a5).bind λ(x0,_)=>
bif (!x0) then (some (true,a0,a1,a2,a3,a4,a5,a6,a7,a8,a9,a10,a11,a12,a13,(),(),(),(),(),(),0,0,0,0,(),0,false,())) else
(lp a6 a7 a8 a9 a10 a11 a12 a13).bind λ(x1,_)=>
bif (!x1) then (some (true,a0,a1,a2,a3,a4,a5,a6,a7,a8,a9,a10,a11,a12,a13,(),(),(),(),(),(),0,0,0,0,(),0,false,())) else
bif (a7 != 1) then (some (true,a0,a1,a2,a3,a4,a5,a6,a7,a8,a9,a10,a11,a12,a13,(),(),(),(),(),(),0,0,0,0,(),0,false,())) else
(sr a11).bind λ(x2,_)=>
bif (!x2) then (some (true,a0,a1,a2,a3,a4,a5,a6,a7,a8,a9,a10,a11,a12,a13,(),(),(),(),(),(),0,0,0,0,(),0,false,())) else
(nG a6 a7 a8 a9 a10 a11 a12 a13).bind λ(x3,_)=>
bif (!x3) then (some (true,a0,a1,a2,a3,a4,a5,a6,a7,a8,a9,a10,a11,a12,a13,(),(),(),(),(),(),0,0,0,0,(),0,false,())) else
(jc a11).bind λ(x4,_)=>
bif (x4==2) then ((dO a12 2).bind λx5=>
some ((decide (x5.2.1 > 16)),a0,a1,a2,a3,a4,a5,a6,a7,a8,a9,a10,a11,a12,a13,(),(),(),(),(),(),0,0,0,0,(),0,false,())) else
some (false,a0,a1,a2,a3,a4,a5,a6,a7,a8,a9,a10,a11,a12,a13,(),(),(),(),(),(),0,0,0,0,(),0,false,()):Option (Bool×LI×LI×LLI×LLCn×LDOp×LDOu×Int×Int×Int×Int×Int×Int×LDCn×LDCn×Unit×Unit×Unit×Unit×Unit×Unit×T1y)).bind λ(x0,x1,x2,x3,x4,x5,x6,x7,x8,x9,ac,ae,af,ag,ah,ai,aj,ak,am,an,ap,aq,av,ax,ay,az,aA,aB,_)=>
bif x0 then (some ([],[],[],[],[],[],0,0,0,0,[],0,false,1,())) else
(pa x1 x2 x3 x4 x5 x6).bind λ(aD,aE,aF,aG,aH,aI,_)=>
let aJ:List (Int):=[0,0,0];
let aK:=dQ ag.length;
(dW vg NN (ag,aK,0,x1,x2,x3,x4,x5,x6,x7,x8,x9,ac,ae,af,ag,ah,ai,aj,ak,am,an,ap,aq,av,ax,ay,az,aA,aB,aD,aE,aF,aG,aH,aI,aJ,())).bind λ(aL,aM,aO,aP,aQ,aR,aS,aT,aU,aV,aW,aY,aZ,ba,bc,bd,bf,bg,bh,bi,bj,bk,bm,bn,bo,bp,bq,bt,bv,bx,bA,bB,bC,bD,bE,bF,bG,bH,_)=>
(eE 0 false).bind λ(bI,bJ,bK,bL,bM)=>
(match (bif (bd==1) then ((dO bH 0).bind λbP=>
(dO bH 0).bind λbQ=>
(nE aT aU bQ bg).bind λ(bR,bS,bT,bU,_)=>
(eE bT bU).bind λ(bV,bW,bY,bZ,b8,b9,ca,_)=>
some (.inl (bh,bi,bj,bk,bm,bn,bo,bp,bq,bt,bv,bx,bA,bB,bC,bD,bR,bS,bG,bV,bW,bY,bZ,[],b9,ca,()))) else
bif (bd==2) then ((dO bH 0).bind λbP=>
(dO bH 0).bind λbQ=>
(dO bH 2).bind λbR=>
(dO bH 2).bind λbS=>
(match pe aT aU bQ bS with
| none=>none
| some (.inl (bT,bU,bV,bW,_))=>
(eE 0 bW).bind λ(bY,bZ,b8,b9,ca,cd,cf,_)=>
some (.inl (bh,bi,bj,bk,bm,bn,bo,bp,bq,bt,bv,bx,bA,bB,bC,bD,bT,bU,bG,bY,bZ,b8,b9,[],cd,cf,()))
| some (.inr (bT,bU,bV,bW,_))=>
let bY:=dQ bV.length;
(eE bY bW).bind λ(bZ,b8,b9,ca,cd,cf,cg,_)=>
some (.inl (bh,bi,bj,bk,bm,bn,bo,bp,bq,bt,bv,bx,bA,bB,bC,bD,bT,bU,bG,bZ,b8,b9,ca,bV,cf,cg,())))) else
bif (bd==3) then ((dO bH 0).bind λbP=>
(dO bH 0).bind λbQ=>
(dO bH 1).bind λbR=>
(dO bH 1).bind λbS=>
(pf aT aU bQ bS).bind λ(bT,bU,bV,_)=>
bif decide (bV>=0) then (let bW:Int:=(wk .u16 bV);
some (.inr (.inl (bh,bi,bj,bk,bm,bn,bo,bp,bq,bt,bv,bx,bA,bB,bC,bD,bT,bU,bG,2,bW,0,0,bM)))) else
some (.inr (.inl (bh,bi,bj,bk,bm,bn,bo,bp,bq,bt,bv,bx,bA,bB,bC,bD,bT,bU,bG,bI,bJ,bK,bL,bM)))) else
bif (bd==4) then ((dO bH 0).bind λbP=>
(dO bH 0).bind λbQ=>
(nF aT aU bQ).bind λ(bR,bS,bT,_)=>
(eE 0 bT).bind λ(bU,bV,bW,bY,bZ,b8,b9,_)=>
some (.inl (bh,bi,bj,bk,bm,bn,bo,bp,bq,bt,bv,bx,bA,bB,bC,bD,bR,bS,bG,bU,bV,bW,bY,[],b8,b9,()))) else
bif (bd==5) then ((dO bH 0).bind λbP=>
(dO bH 0).bind λbQ=>
(dO bH 1).bind λbR=>
(dO bH 1).bind λbS=>
(pd aT aU bQ bS).bind λ(bT,bU,bV,_)=>
(eE 0 bV).bind λ(bW,bY,bZ,b8,b9,ca,cd,_)=>
some (.inl (bh,bi,bj,bk,bm,bn,bo,bp,bq,bt,bv,bx,bA,bB,bC,bD,bT,bU,bG,bW,bY,bZ,b8,[],ca,cd,()))) else
bif (bd==6) then (let bP:Int:=(dQ aQ.length);
bif decide (bP > 0) then ((dO aQ 0).bind λbQ=>
let bR:=wk .i64 bQ;
(eE bR true).bind λ(bS,bT,bU,bV,bW,bY,bZ,_)=>
bif (ir 1 bB.length bB.length) then let b8:List (Int):=(kU bB 1 (Nat.sub bB.length 1));
some (.inr (.inr (.inl (bh,bi,bj,bk,bm,bn,bo,bp,bq,bt,bv,bx,bA,b8,bC,bD,bE,bF,bG,bS,bT,bU,bV,bW,bY,bZ,())))) else none) else
some (.inr (.inl (bh,bi,bj,bk,bm,bn,bo,bp,bq,bt,bv,bx,bA,bB,bC,bD,bE,bF,bG,bI,bJ,bK,bL,bM)))) else
bif (bd==7) then (let bP:Int:=(dQ aR.length);
bif decide (bP > 0) then ((dO aR 0).bind λbQ=>
let bR:=wk .i64 bQ;
(eE bR true).bind λ(bS,bT,bU,bV,bW,bY,bZ,_)=>
bif (ir 1 bC.length bC.length) then let b8:List (Int):=(kU bC 1 (Nat.sub bC.length 1));
some (.inr (.inr (.inr (.inl (bh,bi,bj,bk,bm,bn,bo,bp,bq,bt,bv,bx,bA,bB,b8,bD,bE,bF,bG,bS,bT,bU,bV,bW,bY,bZ,()))))) else none) else
some (.inr (.inl (bh,bi,bj,bk,bm,bn,bo,bp,bq,bt,bv,bx,bA,bB,bC,bD,bE,bF,bG,bI,bJ,bK,bL,bM)))) else
bif (bd==13) then ((dO bH 0).bind λbP=>
(dO bH 0).bind λbQ=>
(pb aV bQ bg).bind λ(bR,bS,bT,_)=>
(eE bS bT).bind λ(bU,bV,bW,bY,bZ,b8,b9,_)=>
some (.inr (.inl (bh,bi,bj,bk,bm,bn,bo,bp,bq,bt,bv,bx,bA,bB,bC,bD,bE,bF,bR,bU,bV,bW,bY,bZ,b8,b9,())))) else
bif (bd==14) then ((dO bH 0).bind λbP=>
(dO bH 0).bind λbQ=>
(dO bH 2).bind λbR=>
(dO bH 2).bind λbS=>
(match lf aS bQ bS with
| none=>none
| some (.inl (bT,bU,bV,_))=>
(eE 0 bV).bind λ(bW,bY,bZ,b8,b9,ca,cd,_)=>
some (.inr (.inl (bh,bi,bj,bk,bm,bn,bo,bp,bq,bt,bv,bx,bA,bB,bC,bT,bE,bF,bG,bW,bY,bZ,b8,bU,ca,cd,())))
| some (.inr (bT,bU,bV,_))=>
let bW:=dQ bU.length;
(eE bW bV).bind λ(bY,bZ,b8,b9,ca,cd,cf,_)=>
some (.inr (.inr (.inr (.inr (bh,bi,bj,bk,bm,bn,bo,bp,bq,bt,bv,bx,bA,bB,bC,bT,bE,bF,bG,bY,bZ,b8,b9,bU,cd,cf,()))))))) else
some (.inr (.inl (bh,bi,bj,bk,bm,bn,bo,bp,bq,bt,bv,bx,bA,bB,bC,bD,bE,bF,bG,bI,bJ,bK,bL,bM))):Option (T3y⊕(T3z⊕(T3z⊕(T3z⊕T3y))))) with
| none=>none
| some (.inl (bP,bQ,bR,bS,bT,bU,bV,bW,bY,bZ,b8,b9,ca,cd,cf,cg,ch,ci,cj,cn,cq,cr,cu,cw,cx,cy,_))=>
some (cd,cf,cg,ch,ci,cj,cn,cq,cr,cu,cw,cx,cy,0,())
| some (.inr (.inl (bP,bQ,bR,bS,bT,bU,bV,bW,bY,bZ,b8,b9,ca,cd,cf,cg,ch,ci,cj,cn,cq,cr,cu,cw,cx,cy,_)))=>
some (cd,cf,cg,ch,ci,cj,cn,cq,cr,cu,[],cx,cy,0,())
| some (.inr (.inr (.inl (bP,bQ,bR,bS,bT,bU,bV,bW,bY,bZ,b8,b9,ca,cd,cf,cg,ch,ci,cj,cn,cq,cr,cu,cw,cx,cy,_))))=>
some (cd,cf,cg,ch,ci,cj,cn,cq,cr,cu,[],cx,cy,0,())
| some (.inr (.inr (.inr (.inl (bP,bQ,bR,bS,bT,bU,bV,bW,bY,bZ,b8,b9,ca,cd,cf,cg,ch,ci,cj,cn,cq,cr,cu,cw,cx,cy,_)))))=>
some (cd,cf,cg,ch,ci,cj,cn,cq,cr,cu,[],cx,cy,0,())
| some (.inr (.inr (.inr (.inr (bP,bQ,bR,bS,bT,bU,bV,bW,bY,bZ,b8,b9,ca,cd,cf,cg,ch,ci,cj,cn,cq,cr,cu,cw,cx,cy,_)))))=>
some (cd,cf,cg,ch,ci,cj,cn,cq,cr,cu,cw,cx,cy,0,()))
def KN:X.Cfg:=⟨E0,[n5,rD,yn,wm,kg,s8,lX,wg,yq,yr,wh,yp,yo,s9],[],[⟨2,0,qE,[(.normal,qS [zaa 2,zaa 3,zaa 4,zaa 5,Xaa 67] [(6,zag),(8,Zac),(10,Uah),(12,zae)])]⟩,(lx 8 1 [zaa 2,zaa 3,zaa 4,zaa 5,zaa 7,Zaa 8 19,sP 74 ej,Uaa 75,Uaa 76] [(6,zag),(8,Zac),(10,Uah),(12,zae),(16,Uaj),(19,yae)] 77),⟨14,2,qE,[(.normal,(qS [zaa 4,zaa 5,zaa 7,zaa 11] [(10,Uah),(12,zae),(16,uL [(uaa CW),(uaa CW),(uaa (uaa CW)),(yaa ej),iK,(uaa IN)]),(24,yal)])),(.normal,qS [zaa 4,zaa 5,zaa 7,zaa 11] [(10,Uah),(12,zae),(16,Uaj),(24,zae)]),(.normal,(qS [zaa 4,zaa 5,zaa 7,zaa 11] [(10,Uah),(12,zae),(16,uL [RW,(uaa CW),(uaa (uaa CW)),(uaa (uaa KCn)),(uaa KOp),(uaa IN)]),(24,zae)])),(.normal,(qS [zaa 4,zaa 5,zaa 7,zaa 11] [(10,Uah),(12,zae),(16,uL [(uaa CW),RW,(uaa (uaa CW)),(uaa (uaa KCn)),(uaa KOp),(uaa IN)]),(24,zae)])),(.normal,(qS [zaa 4,zaa 5,zaa 7,zaa 11] [(10,Uah),(12,zae),(16,uL [(uaa CW),(uaa CW),(uaa RW),(uaa (uaa KCn)),(uaa KOp),(uaa IN)]),(24,yal)]))]⟩]⟩
def CO:Ctr:=⟨178,91,[.agg zag,.agg Zac],[],[⟨uL [RW,RW,(yaa RW),(yaa ej),iK,j5,CB,CW,I64,I64,ej,I64,.bool,I64],[.agg 6,.agg 7,.one],[]⟩],ap14 qe⟩
theorem KF:Lk 5 CO:=ls KN (aC rd (aC vD (aC Fz (aC Dv (aC mO (aC xT (aC nW (aC Dr (aC FC (aC FD (aC Ds (aC FB (aC FA (aC Ah aN))))))))))))))
def la:T3C->Option (T3C⊕(T3t⊕(LDTh×Int×Int×Bool×T3t))):=λ(v0,v1,v2,v3,v4,v5,v6,v7,v8,v9,v10,v11,v12,v13,v14,v15,v16,v17,v18,v19,v20,v21)=>
bif decide (v2 < v1) then ((ee v2).bind λx0=>
(dO v0 x0).bind λx1=>
bif (x1.1==0) then ((eE v2 true).bind λ(x2,x3,x4,x5,x6,x7,x8,_)=>
some (.inr (.inl (v3,v4,v5,v6,v7,v8,v9,v10,v11,v12,v13,v14,v15,v16,v17,v18,v19,v20,x2,x3,x4,x5,x6,v2,x8,())))) else
let x2:=w64 (v2+1);
some (.inl (v0,v1,x2,v3,v4,v5,v6,v7,v8,v9,v10,v11,v12,v13,v14,v15,v16,v17,v18,v19,v20,v21))) else
some (.inr (.inr (v0,v1,v2,false,v3,v4,v5,v6,v7,v8,v9,v10,v11,v12,v13,v14,v15,v16,v17,v18,v19,v20,v21)))
def lc(a0:Int) (a1:Int) (a2:Int) (a3:Int) (a4:Int) (a5:Int) (a6:LDCn) (a7:LDCn) (a8:LDIn) (a9:List (Int)) (a10:List LI) (a11:List (Int)) (a12:Int) (a13:LDCe) (a14:LDLn) (a15:LDTh) (a16:List (Int)) (a17:List (Int)) (a18:List LI) (a19:List LDCn) (a20:LDOp) (a21:LDOu) (a22:List (Int)) (a23:List LI) (a24:LDEn) (a25:List (Int)):Option (Int×Int×Int×Int×LDCn×T3i):=
(bif (a5==0) then (some (a5,true,a8,a9,a10,a11,a12,a13,a14,a15,a16,a17,a18,a19,a20,a21,a22,a23,a24,a25,a0,a1,a2,a3,a4,a5,a6,a7,0,0,0,0,(),0,false,())) else
bif (a5==12) then (some (a5,true,a8,a9,a10,a11,a12,a13,a14,a15,a16,a17,a18,a19,a20,a21,a22,a23,a24,a25,a0,a1,a2,a3,a4,a5,a6,a7,0,0,0,0,(),0,false,())) else
some (a5,(a5==15),a8,a9,a10,a11,a12,a13,a14,a15,a16,a17,a18,a19,a20,a21,a22,a23,a24,a25,a0,a1,a2,a3,a4,a5,a6,a7,0,0,0,0,(),0,false,()):Option (T3J)).bind λ(x0,x1,x2,x3,x4,x5,x6,x7,x8,x9,ac,ae,af,ag,ah,ai,aj,ak,am,an,ap,aq,av,ax,ay,az,aA,aB,aD)=>
bif x1 then ((eE 0 true).bind λ(aK,aL,aM,aO,aP,aQ,aR,_)=>
some (aK,aL,aM,aO,[],aQ,aR,x2,x3,x4,x5,x6,x7,x8,x9,ac,ae,af,ag,ah,ai,aj,ak,am,an,())) else
bif (x0==8) then ((dO aA 0).bind λaK=>
let aL:=wk .i64 aK.2.1;
(ph aj ak aL ap).bind λ(aM,aO,aP,_)=>
(eE 0 (aP != 2)).bind λ(aQ,aR,aS,aT,aU,aV,aW,_)=>
some (aQ,aR,aS,aT,[],aV,(aP==1),x2,x3,x4,x5,x6,x7,x8,x9,ac,ae,af,ag,ah,ai,aM,aO,am,an,())) else
bif (x0==9) then ((dO aA 0).bind λaK=>
let aL:=wk .i64 aK.2.1;
(kK aj ak aL ap).bind λ(aM,aO,aP,aQ,_)=>
(eE 0 aQ).bind λ(aR,aS,aT,aU,aV,aW,aY,_)=>
some (aR,aS,aT,aU,[],aW,aY,x2,x3,x4,x5,x6,x7,x8,x9,ac,ae,af,ag,ah,ai,aM,aO,am,an,())) else
bif (x0==10) then (let aK:Int:=(dQ x9.length);
(match dW la NN (x9,aK,0,x2,x3,x4,x5,x6,x7,x8,x9,ac,ae,af,ag,ah,ai,aj,ak,am,an,aD) with
| none=>none
| some (.inl (aL,aM,aO,aP,aQ,aR,aS,aT,aU,aV,aW,aY,aZ,ba,bc,bd,bf,bg,bh,bi,bj,bk,bm,bn,bo,_))=>
some (bh,bi,bj,bk,[],bn,bo,aL,aM,aO,aP,aQ,aR,aS,aT,aU,aV,aW,aY,aZ,ba,bc,bd,bf,bg,())
| some (.inr (aL,aM,aO,aP,aQ,aR,aS,aT,aU,aV,aW,aY,aZ,ba,bc,bd,bf,bg,bh,bi,bj,bk,bm,bn,bo,bp,bq,bt,bv,_))=>
(eE 0 false).bind λ(bx,bA,bB,bC,bD,bE,bF,_)=>
some (bx,bA,bB,bC,[],bE,bF,aQ,aR,aS,aT,aU,aV,aW,aY,aZ,ba,bc,bd,bf,bg,bh,bi,bj,bk,()))) else
bif (x0==11) then ((dO aA 0).bind λaK=>
let aL:=wk .i64 aK.2.1;
(bif (aL==ap) then (some (aL,true,x2,x3,x4,x5,x6,x7,x8,x9,ac,ae,af,ag,ah,ai,aj,ak,am,an,ap,aq,av,ax,ay,az,aA,aB,aD)) else
bif decide (aL>=4) then (some (aL,true,x2,x3,x4,x5,x6,x7,x8,x9,ac,ae,af,ag,ah,ai,aj,ak,am,an,ap,aq,av,ax,ay,az,aA,aB,aD)) else
(ee aL).bind λaM=>
(dO x9 aM).bind λaO=>
some (aL,(aO.1==0),x2,x3,x4,x5,x6,x7,x8,x9,ac,ae,af,ag,ah,ai,aj,ak,am,an,ap,aq,av,ax,ay,az,aA,aB,aD):Option (T3J)).bind λ(aM,aO,aP,aQ,aR,aS,aT,aU,aV,aW,aY,aZ,ba,bc,bd,bf,bg,bh,bi,bj,bk,bm,bn,bo,bp,bq,bt,bv,bx,bA,bB,bC,bD,bE,bF,_)=>
bif aO then ((eE 0 false).bind λ(bG,bH,bI,bJ,bK,bL,bM,_)=>
some (bG,bH,bI,bJ,[],bL,bM,aP,aQ,aR,aS,aT,aU,aV,aW,aY,aZ,ba,bc,bd,bf,bg,bh,bi,bj,())) else
(ee aM).bind λbG=>
(dO aW bG).bind λbH=>
bif (bH.1==4) then (let bI:Int:=(wk .i64 bH.2.2.2.2.2.2.2);
(eE bI true).bind λ(bJ,bK,bL,bM,bN,bO,bP,_)=>
some (bJ,bK,bL,bM,[],bO,bP,aP,aQ,aR,aS,aT,aU,aV,aW,aY,aZ,ba,bc,bd,bf,bg,bh,bi,bj,())) else
(ee bk).bind λbI=>
(dO bj bI).bind λbJ=>
(dO bj bI).bind λbK=>
let bL:=List.modify bj bI λe=>aM;
(eE 0 true).bind λ(bM,bN,bO,bP,bQ,bR,bS,_)=>
some (bM,bN,bO,bP,[],bR,true,aP,aQ,aR,aS,aT,aU,aV,aW,aY,aZ,ba,bc,bd,bf,bg,bh,bi,bL,())) else
(qe ac ae af ag ah ai ap aq av ax ay az aA aB).bind λ(aK,aL,aM,aO,aP,aQ,aR,aS,aT,aU,aV,aW,aY,aZ,_)=>
some (aR,aS,aT,aU,aV,aW,aY,x2,x3,x4,x5,x6,x7,x8,x9,aK,aL,aM,aO,aP,aQ,aj,ak,am,an,())
def Ay:X.Cfg:=⟨E0,[lX,yu,pL,CO],[],[⟨3,0,qE,[(.normal,qS [zaa 0,zaa 3,zaa 4,Uaa 21,Xaa 22] [(2,yad),(8,Zac),(10,zae)])]⟩,⟨20,1,qS [zaa 0,zaa 4,sP 87 gD,Uaa 88,Uaa 89] [(2,yad),(10,zae)],[(.ret,qS [zaa 0,zaa 4] [(2,yad),(10,zae)]),(.exit 1,qS [zaa 0,zaa 4,sP 87 gD,Uaa 88,Uaa 89,Xaa 90] [(2,yad),(10,zae)])]⟩,⟨33,2,qE,[(.normal,qS [zaa 0,zaa 3,zaa 4,Uaa 14,Xaa 131] [(2,yad),(8,Zac),(10,zae)])]⟩]⟩
def s7:Ctr:=⟨164,92,[.ptr ⟨2,0,[]⟩ [0],.agg Zac],[(2,yad)],[⟨Xaf,[.agg 7],[(2,yad)]⟩],ap26 lc⟩
theorem Ag:Lk 6 s7:=ls Ay (aC nW (aC FE (aC sQ (aC KF aN))))
def lk(a0:Int) (a1:Int) (a2:Int) (a3:Int) (a4:LDCn) (a5:Int) (a6:Bool):Option (Bool×Unit):=
(iM a0 a1 a2 a3).bind λ(x0,_)=>
bif x0 then ((fA a4 16).bind λ(x1,_)=>
bif x1 then (bif (decide (a5>=(-1))) then (some ((decide (a5 < 4)),())) else
some (false,())) else
some (false,())) else
some (false,())
def DZ:X.Cfg:=⟨E0,[tp,ie],[],[]⟩
def rB:Ctr:=⟨180,93,[.agg Xaf],[],[⟨zab,[.one],[]⟩],ap7 lk⟩
theorem vA:Lk 3 rB:=ls DZ (aC xX (aC iX aN))
def ii(a0:List (Int)) (a1:Int) (a2:List (Int)) (a3:Int) (a4:Int) (a5:Int) (a6:Int):Option (T0e):=
(fQ a2 a3 a4 a5 a6).bind λ(x0,_)=>
bif (!x0) then (some (0,0,1,())) else
bif (a3==0) then (some (0,a4,0,())) else
bif (a3==2) then (let x1:Int:=(wk .u16 (a4+a1));
some (2,x1,0,())) else
(ee a5).bind λx1=>
(dO a0 x1).bind λx2=>
let x3:=w64 (x2+a6);
let x4:=wk .u16 x3;
some (1,x4,0,())
def Ih:X.Cfg:=⟨E0,[ki],[],[]⟩
def rH:Ctr:=⟨68,94,[.agg yab,shU RI,.agg zaf],[],[⟨Zah,[.agg 2,.one],[]⟩],ap7 ii⟩
theorem uT:Lk 3 rH:=ls Ih (aC mP aN)
def lD(a0:List (Int)) (a1:Int) (a2:List (Int)) (a3:Int) (a4:Int):Option (T02):=
(fR a2 a3 a4).bind λ(x0,_)=>
bif (!x0) then (some (0,6,())) else
(ee a3).bind λx1=>
(dO a0 x1).bind λx2=>
let x3:=w64 (x2+a4);
some (x3,0,())
def AG:X.Cfg:=⟨E0,[kj],[],[]⟩
def tE:Ctr:=⟨198,95,[.agg yab,shU RI,.agg uad],[],[⟨uad,[.one,.one],[]⟩],ap5 lD⟩
theorem Ap:Lk 2 tE:=ls AG (aC mQ aN)
def vh:Option (T1R):=
bif (sK 8 8 2) then let x0:LDCe:=(List.replicate 8 (0,0));
some (0,x0,0,0,(-1),(-1),0,0,()) else none
def Ec:X.Cfg:=⟨E0,[],[],[]⟩
def wu:Ctr:=⟨205,96,[],[],[⟨Zaf,[.agg 8],[]⟩],λh=>vh⟩
theorem DA:Lk 1 wu:=ls Ec aN
def qV(a0:Int) (a1:Int) (a2:Int):Option (T1R):=
(vh).bind λ(x0,x1,x2,x3)=>
(dO x1 0).bind λx8=>
(dO x1 0).bind λx9=>
let ac:=List.modify x1 0 λe=>(a1,a2);
some (1,ac,a0,x3)
def Ie:X.Cfg:=⟨E0,[wu],[],[]⟩
def A9:Ctr:=⟨199,97,[shU I64,.agg uac],[],[⟨Zaf,[.agg 8],[]⟩],ap3 qV⟩
theorem HY:Lk 2 A9:=ls Ie (aC DA aN)
def mD:T3D->Option (T3D⊕(T17⊕T3E)):=λ(v0,v1,v2,v3,v4,v5,v6,v7,v8,v9,v10,v11,v12,v13,v14,v15,v16,v17,v18,v19,v20,v21,v22,v23,v24,v25,v26,v27,v28,v29,v30,_)=>
bif decide (v3 < v2) then ((ee v3).bind λx0=>
(dO v1 x0).bind λx1=>
(ii v4 v5 v10 x1.1 x1.2.1 x1.2.2.1 x1.2.2.2).bind λ(x2,x3,x4,_)=>
bif (x4 != 0) then (some (.inr (.inl (false,v4,v5,v6,v7,v8,())))) else
(fR v10 v29 v30).bind λ(x5,_)=>
bif (!x5) then (some (.inr (.inl (false,v4,v5,v6,v7,v8,())))) else
(lD v4 v5 v10 v29 v30).bind λ(x6,x7,_)=>
(lw x6 x2 x3 v6 v7).bind λ(x8,x9,_)=>
let ac:=w64 (v30+1);
let ae:=w64 (v3+1);
some (.inl (v0,v1,v2,ae,v4,v5,x8,x9,v8,v9,v10,v11,v12,v13,v14,v15,v16,v17,v18,v19,v20,v21,v22,v23,v24,v25,v26,v27,v28,v29,ac,()))) else
some (.inr (.inr (v0,v1,v2,v3,false,v4,v5,v6,v7,v8,v9,v10,v11,v12,v13,v14,v15,v16,v17,v18,v19,v20,v21,v22,v23,v24,v25,v26,v27,v28,v29,v30,())))
def qR(a0:LDIn) (a1:List (Int)) (a2:List LI) (a3:Int) (a4:Int) (a5:Int) (a6:Int) (a7:Int) (a8:Int) (a9:LDCn) (a10:LDCn) (a11:Int) (a12:Int) (a13:Int) (a14:Int) (a15:LDCn) (a16:Int) (a17:Bool) (a18:List (Int)) (a19:Int) (a20:LDCe) (a21:LDLn) (a22:LDTh):Option (T17):=
(ee a3).bind λx0=>
(dO a22 x0).bind λx1=>
(ii a18 a19 a1 a11 a12 a13 a14).bind λ(x2,x3,x4,_)=>
bif (x4 != 0) then (some (false,a18,a19,a20,a21,a22,())) else
(match ((jc a8).bind λ(x5,_)=>
bif (x5==2) then (let x6:Int:=(dQ a15.length);
bif decide (x6 > 0) then ((dO a9 1).bind λx7=>
(dO a9 1).bind λx8=>
(dO a9 1).bind λx9=>
(fQ a1 x9.1 x9.2.1 x9.2.2.1 x9.2.2.2).bind λ(ac,_)=>
bif (!ac) then (some (.inl (false,a18,a19,a20,a21,a22,()))) else
(dO a9 1).bind λae=>
bif (ae.1 != 1) then (some (.inl (false,a18,a19,a20,a21,a22,()))) else
let af:=dQ a15.length;
(match dW mD NN (x0,a15,af,0,a18,a19,a20,a21,a22,a0,a1,a2,a3,a4,a5,a6,a7,a8,a9,a10,a11,a12,a13,a14,a15,a16,a17,x2,x3,x7.2.2.1,x8.2.2.2,()) with
| none=>none
| some (.inl (ag,ah,ai,aj,ak,am,_))=>
some (.inl (ag,ah,ai,aj,ak,am,()))
| some (.inr (ag,ah,ai,aj,ak,am,an,ap,aq,av,ax,ay,az,aA,aB,aD,aE,aF,aG,aH,aI,aJ,aK,aL,aM,aO,aP,aQ,aR,aS,aT,aU,_))=>
some (.inr (.inl (ag,ah,ai,aj,ak,am,an,ap,aq,av,ax,ay,az,aA,aB,aD,aE,aF,aG,aH,aI,aJ,aK,aL,aM,aO,aP,aQ,aR,aS,aT,aU,()))))) else
some (.inr (.inr (x0,false,a18,a19,a20,a21,a22,a0,a1,a2,a3,a4,a5,a6,a7,a8,a9,a10,a11,a12,a13,a14,a15,a16,a17,x2,x3,())))) else
some (.inr (.inr (x0,false,a18,a19,a20,a21,a22,a0,a1,a2,a3,a4,a5,a6,a7,a8,a9,a10,a11,a12,a13,a14,a15,a16,a17,x2,x3,()))):Option (T17⊕(T3E⊕(Nat×Bool×T3u)))) with
| none=>none
| some (.inl (x5,x6,x7,x8,x9,ac,_))=>
some (x5,x6,x7,x8,x9,ac,())
| some (.inr (.inl (x5,x6,x7,x8,x9,ac,ae,af,ag,ah,ai,aj,ak,am,an,ap,aq,av,ax,ay,az,aA,aB,aD,aE,aF,aG,aH,aI,aJ,aK,aL,_)))=>
(match (bif (ax==12) then ((dO ay 0).bind λaM=>
let aO:=wk .i64 aM.2.1;
bif decide (aO > 255) then (some (.inl (false,ac,ae,af,ag,ah,()))) else
(dO ay 0).bind λaP=>
bif (aP.1 != 0) then (some (.inl (false,ac,ae,af,ag,ah,()))) else
(dO ay 0).bind λaQ=>
let aR:=wk .i64 aQ.2.1;
(dO ah x5).bind λaS=>
let aT:=(List.modify ah x5 λe=>(e.1,(e.2.1,(e.2.2.1,(e.2.2.2.1,(aR,e.2.2.2.2.2))))));
some (.inr (x5,ac,ae,af,ag,aT,ai,aj,ak,am,an,ap,aq,av,ax,ay,az,aA,aB,aD,aE,aF,aG,aH,aI,aJ,()))) else
some (.inr (x5,ac,ae,af,ag,ah,ai,aj,ak,am,an,ap,aq,av,ax,ay,az,aA,aB,aD,aE,aF,aG,aH,aI,aJ,())):Option (T17⊕T3w)) with
| none=>none
| some (.inl (aM,aO,aP,aQ,aR,aS,_))=>
some (aM,aO,aP,aQ,aR,aS,())
| some (.inr (aM,aO,aP,aQ,aR,aS,aT,aU,aV,aW,aY,aZ,ba,bc,bd,bf,bg,bh,bi,bj,bk,bm,bn,bo,bp,bq,_))=>
(match (bif (bd==10) then (bif decide (bn>=0) then ((dO bf 1).bind λbt=>
(ii aO aP aU bt.1 bt.2.1 bt.2.2.1 bt.2.2.2).bind λ(bv,bx,bA,_)=>
(bif (bA != 0) then (some (aM,true,aO,aP,aQ,aR,aS,aW,aY,aZ,ba,bc,bd,bf,bg,bh,bi,bj,bk,bm,bn,bo,bp,bq,bv,bx,())) else
(ee bn).bind λbB=>
(dO aS bB).bind λbC=>
(dO aS bB).bind λbD=>
bif (bD.1 != 0) then (some (aM,true,aO,aP,aQ,aR,aS,aW,aY,aZ,ba,bc,bd,bf,bg,bh,bi,bj,bk,bm,bn,bo,bp,bq,bv,bx,())) else
(dO bf 0).bind λbE=>
let bF:=wk .i64 bE.2.1;
bif decide (bF > 255) then (some (aM,true,aO,aP,aQ,aR,aS,aW,aY,aZ,ba,bc,bd,bf,bg,bh,bi,bj,bk,bm,bn,bo,bp,bq,bv,bx,())) else
(dO bf 0).bind λbG=>
some (aM,(bG.1 != 0),aO,aP,aQ,aR,aS,aW,aY,aZ,ba,bc,bd,bf,bg,bh,bi,bj,bk,bm,bn,bo,bp,bq,bv,bx,()):Option (T3v)).bind λ(bB,bC,bD,bE,bF,bG,bH,bI,bJ,bK,bL,bM,bN,bO,bP,bQ,bR,bS,bT,bU,bV,bW,bY,bZ,b8,b9,_)=>
bif bC then (some (.inl (false,bD,bE,bF,bG,bH,()))) else
(dO bO 0).bind λca=>
let cd:=wk .i64 ca.2.1;
(qV cd b8 b9).bind λ(cf,cg,ch,ci,cj,cn,cq,cr,_)=>
(ee bV).bind λcu=>
(dO bH cu).bind λcw=>
(dO bH cu).bind λcx=>
let cy:=(List.modify bH cu λe=>(cf,(cg,(ch,(ci,(cj,(cn,(cq,cr))))))));
some (.inr (bB,bD,bE,bF,bG,cy,bI,bJ,bK,bL,bM,bN,bO,bP,bY,bZ,()))) else
some (.inr (aM,aO,aP,aQ,aR,aS,aW,aY,aZ,ba,bc,bd,bf,bg,bp,bq,()))) else
some (.inr (aM,aO,aP,aQ,aR,aS,aW,aY,aZ,ba,bc,bd,bf,bg,bp,bq,())):Option (T17⊕T35)) with
| none=>none
| some (.inl (bt,bv,bx,bA,bB,bC,_))=>
some (bt,bv,bx,bA,bB,bC,())
| some (.inr (bt,bv,bx,bA,bB,bC,bD,bE,bF,bG,bH,bI,bJ,bK,bL,bM,_))=>
(dO bC bt).bind λbN=>
(dO bC bt).bind λbO=>
(dO bO.2.1 0).bind λbP=>
(dO bC bt).bind λbQ=>
(dO bQ.2.1 0).bind λbR=>
let bS:=(List.modify bC bt λe=>(e.1,((List.modify e.2.1 0 λe=>(bL,bM)),e.2.2)));
(dO bS bt).bind λbT=>
let bU:=List.modify bS bt λe=>(1,e.2);
some (true,bv,bx,bA,bB,bU,())))
| some (.inr (.inr (x5,x6,x7,x8,x9,ac,ae,af,ag,ah,ai,aj,ak,am,an,ap,aq,av,ax,ay,az,aA,aB,aD,aE,aF,aG,_)))=>
(match (bif (ap==12) then ((dO aq 0).bind λaH=>
let aI:=wk .i64 aH.2.1;
bif decide (aI > 255) then (some (.inl (false,x7,x8,x9,ac,ae,()))) else
(dO aq 0).bind λaJ=>
bif (aJ.1 != 0) then (some (.inl (false,x7,x8,x9,ac,ae,()))) else
(dO aq 0).bind λaK=>
let aL:=wk .i64 aK.2.1;
(dO ae x5).bind λaM=>
let aO:=(List.modify ae x5 λe=>(e.1,(e.2.1,(e.2.2.1,(e.2.2.2.1,(aL,e.2.2.2.2.2))))));
some (.inr (x5,x7,x8,x9,ac,aO,af,ag,ah,ai,aj,ak,am,an,ap,aq,av,ax,ay,az,aA,aB,aD,aE,aF,aG,()))) else
some (.inr (x5,x7,x8,x9,ac,ae,af,ag,ah,ai,aj,ak,am,an,ap,aq,av,ax,ay,az,aA,aB,aD,aE,aF,aG,())):Option (T17⊕T3w)) with
| none=>none
| some (.inl (aH,aI,aJ,aK,aL,aM,_))=>
some (aH,aI,aJ,aK,aL,aM,())
| some (.inr (aH,aI,aJ,aK,aL,aM,aO,aP,aQ,aR,aS,aT,aU,aV,aW,aY,aZ,ba,bc,bd,bf,bg,bh,bi,bj,bk,_))=>
(match (bif (aW==10) then (bif decide (bh>=0) then ((dO aY 1).bind λbm=>
(ii aI aJ aP bm.1 bm.2.1 bm.2.2.1 bm.2.2.2).bind λ(bn,bo,bp,_)=>
(bif (bp != 0) then (some (aH,true,aI,aJ,aK,aL,aM,aR,aS,aT,aU,aV,aW,aY,aZ,ba,bc,bd,bf,bg,bh,bi,bj,bk,bn,bo,())) else
(ee bh).bind λbq=>
(dO aM bq).bind λbt=>
(dO aM bq).bind λbv=>
bif (bv.1 != 0) then (some (aH,true,aI,aJ,aK,aL,aM,aR,aS,aT,aU,aV,aW,aY,aZ,ba,bc,bd,bf,bg,bh,bi,bj,bk,bn,bo,())) else
(dO aY 0).bind λbx=>
let bA:=wk .i64 bx.2.1;
bif decide (bA > 255) then (some (aH,true,aI,aJ,aK,aL,aM,aR,aS,aT,aU,aV,aW,aY,aZ,ba,bc,bd,bf,bg,bh,bi,bj,bk,bn,bo,())) else
(dO aY 0).bind λbB=>
some (aH,(bB.1 != 0),aI,aJ,aK,aL,aM,aR,aS,aT,aU,aV,aW,aY,aZ,ba,bc,bd,bf,bg,bh,bi,bj,bk,bn,bo,()):Option (T3v)).bind λ(bq,bt,bv,bx,bA,bB,bC,bD,bE,bF,bG,bH,bI,bJ,bK,bL,bM,bN,bO,bP,bQ,bR,bS,bT,bU,bV,_)=>
bif bt then (some (.inl (false,bv,bx,bA,bB,bC,()))) else
(dO bJ 0).bind λbW=>
let bY:=wk .i64 bW.2.1;
(qV bY bU bV).bind λ(bZ,b8,b9,ca,cd,cf,cg,ch,_)=>
(ee bQ).bind λci=>
(dO bC ci).bind λcj=>
(dO bC ci).bind λcn=>
let cq:=(List.modify bC ci λe=>(bZ,(b8,(b9,(ca,(cd,(cf,(cg,ch))))))));
some (.inr (bq,bv,bx,bA,bB,cq,bD,bE,bF,bG,bH,bI,bJ,bK,bS,bT,()))) else
some (.inr (aH,aI,aJ,aK,aL,aM,aR,aS,aT,aU,aV,aW,aY,aZ,bj,bk,()))) else
some (.inr (aH,aI,aJ,aK,aL,aM,aR,aS,aT,aU,aV,aW,aY,aZ,bj,bk,())):Option (T17⊕T35)) with
| none=>none
| some (.inl (bm,bn,bo,bp,bq,bt,_))=>
some (bm,bn,bo,bp,bq,bt,())
| some (.inr (bm,bn,bo,bp,bq,bt,bv,bx,bA,bB,bC,bD,bE,bF,bG,bH,_))=>
(dO bt bm).bind λbI=>
(dO bt bm).bind λbJ=>
(dO bJ.2.1 0).bind λbK=>
(dO bt bm).bind λbL=>
(dO bL.2.1 0).bind λbM=>
let bN:=(List.modify bt bm λe=>(e.1,((List.modify e.2.1 0 λe=>(bG,bH)),e.2.2)));
(dO bN bm).bind λbO=>
let bP:=List.modify bN bm λe=>(1,e.2);
some (true,bn,bo,bp,bq,bP,()))))
def Ib:X.Cfg:=⟨E0,[rH,kg,ki,kj,tE,rE,A9],[],[⟨13,0,(qS [zaa 1,zaa 4,zaa 6,zaa 7,(9,.ptr ⟨4,4,[((),(8,0))]⟩ [0,0]),zaa 10,zaa 12,sP 80 ej,Uaa 81,Uaa 82] [(4,Xac),(10,uab),(14,Zac),(16,Xaf),(22,uac),(26,uad)]),[(.ret,qS [zaa 1,Xaa 8] [(4,Xac)]),(.exit 0,(qS [zaa 1,zaa 4,zaa 6,zaa 7,(9,.ptr ⟨4,4,[((),(8,0))]⟩ [0,0]),zaa 10,zaa 12,sP 80 ej,Uaa 81,Uaa 82,Xaa 83] [(4,Xac),(10,uab),(14,Zac),(16,Xaf),(22,uac),(26,uad)]))]⟩,⟨6,1,qE,[(.ret,qS [zaa 1,Xaa 8] [(4,Xac)]),(.normal,(qS [zaa 1,zaa 4,zaa 6,zaa 7,(9,.ptr ⟨4,4,[((),(8,0))]⟩ [0,0]),zaa 10,zaa 12,sP 80 ej,Uaa 81,Uaa 82,Xaa 83] [(4,Xac),(10,uab),(14,Zac),(16,Xaf),(22,uac),(26,uad)])),(.normal,(qS [zaa 1,zaa 4,zaa 6,zaa 7,(9,.ptr ⟨4,4,[((),(8,0))]⟩ [0,0]),zaa 10,Xaa 51] [(4,Xac),(10,uab),(14,Zac),(16,Xaf),(22,uac)]))]⟩,⟨24,2,qE,[(.ret,qS [zaa 1,Xaa 8] [(4,Xac)]),(.normal,(qS [zaa 1,zaa 4,zaa 6,zaa 7,(9,.ptr ⟨4,4,[((),(8,0))]⟩ [0,0]),zaa 10] [(4,Xac),(10,uab),(14,Zac),(16,Xaf),(22,uac)]))]⟩,⟨33,3,qE,[(.normal,(qS [zaa 1,zaa 6,zaa 7,(9,.ptr ⟨4,4,[((),(8,0))]⟩ [0,0]),zaa 10,zaa 19,Xaa 207] [(4,Xac),(14,Zac),(16,Xaf),(22,uac),(40,uac)]))]⟩,⟨29,4,qE,[(.ret,qS [zaa 1,Xaa 8] [(4,Xac)]),(.normal,(qS [zaa 1,(9,.ptr ⟨4,4,[((),(8,0))]⟩ [0,0]),zaa 10] [(4,Xac),(14,Zac),(22,uac)]))]⟩]⟩
def A6:Ctr:=⟨181,98,[.agg uab,.ptr ⟨4,0,[]⟩ [0],.agg Zac,.agg Xaf],[(4,Xac)],[⟨zab,[.one],[(4,Xac)]⟩],ap23 qR⟩
theorem HV:Lk 4 A6:=ls Ib (aC uT (aC mO (aC mP (aC mQ (aC Ap (aC vE (aC HY aN)))))))
def qT(a0:LDIn) (a1:List (Int)) (a2:List LI) (a3:List (Int)) (a4:Int) (a5:LDCe) (a6:LDLn) (a7:LDTh) (a8:Int) (a9:Int) (a10:Int) (a11:Int) (a12:Int) (a13:Int) (a14:LDCn) (a15:LDCn) (a16:Int) (a17:Int) (a18:Int) (a19:Int) (a20:LDCn) (a21:Int) (a22:Bool):Option (T1l):=
((jM a0 a1 a2 a3 a4 a5 a6 a7).bind λ(x0,_)=>
bif (!x0) then (some (true,a0,a1,a2,a3,a4,a5,a6,a7,a8,a9,a10,a11,a12,a13,a14,a15,a16,a17,a18,a19,a20,a21,a22,(),0,(),(),(),())) else
(lp a8 a9 a10 a11 a12 a13 a14 a15).bind λ(x1,_)=>
bif (!x1) then (some (true,a0,a1,a2,a3,a4,a5,a6,a7,a8,a9,a10,a11,a12,a13,a14,a15,a16,a17,a18,a19,a20,a21,a22,(),0,(),(),(),())) else
bif (a9 != 1) then (some (true,a0,a1,a2,a3,a4,a5,a6,a7,a8,a9,a10,a11,a12,a13,a14,a15,a16,a17,a18,a19,a20,a21,a22,(),0,(),(),(),())) else
let x2:=dQ a14.length;
(ix a13).bind λ(x3,_)=>
bif (x2 != x3) then (some (true,a0,a1,a2,a3,a4,a5,a6,a7,a8,a9,a10,a11,a12,a13,a14,a15,a16,a17,a18,a19,a20,a21,a22,(),0,(),(),(),())) else
(lk a16 a17 a18 a19 a20 a21 a22).bind λ(x4,_)=>
bif (!x4) then (some (true,a0,a1,a2,a3,a4,a5,a6,a7,a8,a9,a10,a11,a12,a13,a14,a15,a16,a17,a18,a19,a20,a21,a22,(),0,(),(),(),())) else
(ee a8).bind λx5=>
(dO a7 x5).bind λx6=>
some ((x6.1 != 2),a0,a1,a2,a3,a4,a5,a6,a7,a8,a9,a10,a11,a12,a13,a14,a15,a16,a17,a18,a19,a20,a21,a22,(),0,(),(),(),()):Option (Bool×LDIn×LI×LLI×LI×Int×LDCe×LDLn×LDTh×Int×Int×Int×Int×Int×Int×LDCn×LDCn×T2H)).bind λ(x0,x1,x2,x3,x4,x5,x6,x7,x8,x9,ac,ae,af,ag,ah,ai,aj,ak,am,an,ap,aq,av,ax,_)=>
bif x0 then (some (x4,x5,x6,x7,x8,false,())) else
(jv x4 x5 x6 x7 x8).bind λ(aE,aF,aG,aH,aI,_)=>
bif (ah==0) then ((ee x9).bind λaJ=>
(dO aI aJ).bind λaK=>
(dO aI aJ).bind λaL=>
(dO ai 0).bind λaM=>
(dO aI aJ).bind λaO=>
(ou aL.1 aO.2.1 aL.2.2.1 aL.2.2.2.1 aL.2.2.2.2.1 aL.2.2.2.2.2.1 aL.2.2.2.2.2.2.1 aL.2.2.2.2.2.2.2 0 aM.2.1).bind λ(aP,aQ,aR,aS,aT,aU,aV,aW,_)=>
(ee x9).bind λaY=>
(dO aI aY).bind λaZ=>
(dO aI aY).bind λba=>
let bc:=(List.modify aI aY λe=>(aP,(aQ,(aR,(aS,(aT,(aU,(aV,aW))))))));
some (aE,aF,aG,aH,bc,true,())) else
bif ax then ((ee x9).bind λaJ=>
(dO aI aJ).bind λaK=>
(dO aI aJ).bind λaL=>
let aM:=List.modify aI aJ λe=>(3,e.2);
some (aE,aF,aG,aH,aM,true,())) else
(qR x1 x2 x3 x9 ac ae af ag ah ai aj ak am an ap aq av ax aE aF aG aH aI).bind λ(aJ,aK,aL,aM,aO,aP,_)=>
bif (!aJ) then (some (x4,x5,x6,x7,x8,false,())) else
some (aK,aL,aM,aO,aP,true,())
def Ic:X.Cfg:=⟨E0,[n7,rD,mu,rB,ng,u3,A6],[],[⟨2,0,qE,[(.normal,qS [zaa 4,zaa 5,zaa 6,zaa 7,zaa 8,Xaa 48] [(10,uab),(12,yac),(14,Zac),(16,Xaf),(18,Zab)])]⟩]⟩
def A7:Ctr:=⟨165,99,[.agg uab,.agg yac,.agg Zac,.agg Xaf],[],[⟨zal,[.agg 5,.one],[]⟩],ap23 qT⟩
theorem HW:Lk 5 A7:=ls Ic (aC rf (aC vD (aC qw (aC vA (aC pG (aC Am (aC HV aN)))))))
def mW(a0:LDIn) (a1:List (Int)) (a2:List LI) (a3:List (Int)) (a4:Int) (a5:LDCe) (a6:LDLn) (a7:LDTh) (a8:Int) (a9:Int) (a10:Int) (a11:Int) (a12:Int) (a13:LDCn) (a14:Int) (a15:Bool):Option (T1l):=
((jM a0 a1 a2 a3 a4 a5 a6 a7).bind λ(x0,_)=>
bif (!x0) then (some (a8,true,a0,a1,a2,a3,a4,a5,a6,a7,a9,a10,a11,a12,a13,a14,a15,(),0,(),(),(),())) else
(lk a9 a10 a11 a12 a13 a14 a15).bind λ(x1,_)=>
bif (!x1) then (some (a8,true,a0,a1,a2,a3,a4,a5,a6,a7,a9,a10,a11,a12,a13,a14,a15,(),0,(),(),(),())) else
bif decide (a8 < 0) then (some (a8,true,a0,a1,a2,a3,a4,a5,a6,a7,a9,a10,a11,a12,a13,a14,a15,(),0,(),(),(),())) else
bif decide (a8>=4) then (some (a8,true,a0,a1,a2,a3,a4,a5,a6,a7,a9,a10,a11,a12,a13,a14,a15,(),0,(),(),(),())) else
(ee a8).bind λx2=>
(dO a7 x2).bind λx3=>
some (a8,(x3.1 != 3),a0,a1,a2,a3,a4,a5,a6,a7,a9,a10,a11,a12,a13,a14,a15,(),0,(),(),(),()):Option (Int×Bool×LDIn×LI×LLI×LI×Int×LDCe×LDLn×LDTh×T2H)).bind λ(x0,x1,x2,x3,x4,x5,x6,x7,x8,x9,ac,ae,af,ag,_)=>
bif x1 then (some (x5,x6,x7,x8,x9,false,())) else
(ii x5 x6 x3 ac ae af ag).bind λ(av,ax,ay,_)=>
bif (ay != 0) then (some (x5,x6,x7,x8,x9,false,())) else
(jv x5 x6 x7 x8 x9).bind λ(az,aA,aB,aD,aE,_)=>
(ee x0).bind λaF=>
(dO aE aF).bind λaG=>
(dO aE aF).bind λaH=>
(dO aE aF).bind λaI=>
(dO aI.2.1 0).bind λaJ=>
(dO aE aF).bind λaK=>
(dO aK.2.1 0).bind λaL=>
let aM:=(List.modify aE aF λe=>(e.1,((List.modify e.2.1 0 λe=>(av,ax)),e.2.2)));
(ee x0).bind λaO=>
(dO aM aO).bind λaP=>
(dO aM aO).bind λaQ=>
let aR:=List.modify aM aO λe=>(1,e.2);
some (az,aA,aB,aD,aR,true,())
def Gg:X.Cfg:=⟨E0,[n7,rB,rH,ng],[],[⟨2,0,qE,[(.normal,qS [Uaa 2,zaa 4,zaa 5,zaa 7,zaa 8,Xaa 38] [(10,uab),(12,yac),(16,Xaf),(18,Zab)])]⟩]⟩
def tk:Ctr:=⟨182,100,[.agg uab,.agg yac,shU I64,.agg Xaf],[],[⟨zal,[.agg 5,.one],[]⟩],ap16 mW⟩
theorem xV:Lk 5 tk:=ls Gg (aC rf (aC vA (aC uT (aC pG aN))))
def o8(a0:Int) (a1:Int) (a2:LDIn) (a3:List (Int)) (a4:List LI) (a5:List (Int)) (a6:Int) (a7:LDCe) (a8:LDLn) (a9:LDTh) (a10:List (Int)) (a11:List (Int)) (a12:List LI) (a13:List LDCn) (a14:LDOp) (a15:LDOu) (a16:List (Int)) (a17:List LI) (a18:LDEn) (a19:List (Int)):Option (T3b):=
let x0:=wk .i64 a1;
(eE x0 true).bind λ(x1,x2,x3,x4,x5,x6,x7,_)=>
(mW a2 a3 a4 a5 a6 a7 a8 a9 a0 x1 x2 x3 x4 [] x6 x7).bind λ(x8,x9,ac,ae,af,ag,_)=>
let ah:LDEn:=[(4,(a0,(0,(0,(0,(0,(0,(0,(0,([],([],(x1,(x2,(x3,(x4,([],(x6,x7)))))))))))))))))];
bif (d9 184 a18.length ah.length) then let ai:LDEn:=(List.append a18 ah);
some (a2,a3,a4,x8,x9,ac,ae,af,a10,a11,a12,a13,a14,a15,a16,a17,ai,a19,()) else none
def F0:X.Cfg:=⟨E0,[lX,tk],[(35,NC),(36,NC)],[]⟩
def yl:Ctr:=⟨166,101,[.ptr ⟨2,0,[]⟩ [0],shU I64,shU CW],[(2,yad)],[⟨[],[],[(2,yad)]⟩],ap20 o8⟩
theorem Fw:Lk 6 yl:=ls F0 (aC nW (aC xV aN))
def j8(a0:Int) (a1:Int) (a2:Int) (a3:Int) (a4:Int) (a5:Int) (a6:LDCn) (a7:LDCn) (a8:LDIn) (a9:List (Int)) (a10:List LI) (a11:List (Int)) (a12:Int) (a13:LDCe) (a14:LDLn) (a15:LDTh) (a16:List (Int)) (a17:List (Int)) (a18:List LI) (a19:List LDCn) (a20:LDOp) (a21:LDOu) (a22:List (Int)) (a23:List LI) (a24:LDEn) (a25:List (Int)):Option (T3b):=
(bif (a5==9) then ((dO a6 0).bind λx0=>
let x1:=wk .i64 x0.2.1;
(kK a22 a23 x1 a0).bind λ(x2,x3,x4,x5,_)=>
some (x4,a8,a9,a10,a11,a12,a13,a14,a15,a16,a17,a18,a19,a20,a21,a22,a23,a24,a25,a0,a1,a2,a3,a4,a5,a6,a7,())) else
some ((-1),a8,a9,a10,a11,a12,a13,a14,a15,a16,a17,a18,a19,a20,a21,a22,a23,a24,a25,a0,a1,a2,a3,a4,a5,a6,a7,()):Option (Int×LDIn×LI×LLI×LI×Int×LDCe×LDLn×LDTh×LI×LI×LLI×LLCn×LDOp×LDOu×LI×LLI×LDEn×LI×T1L)).bind λ(x0,x1,x2,x3,x4,x5,x6,x7,x8,x9,ac,ae,af,ag,ah,ai,aj,ak,am,an,ap,aq,av,ax,ay,az,aA,_)=>
(lc an ap aq av ax ay az aA x1 x2 x3 x4 x5 x6 x7 x8 x9 ac ae af ag ah ai aj ak am).bind λ(aB,aD,aE,aF,aG,aH,aI,aJ,aK,aL,aM,aO,aP,aQ,aR,aS,aT,aU,aV,aW,aY,aZ,ba,bc,bd,_)=>
(qT aJ aK aL aM aO aP aQ aR an ap aq av ax ay az aA aB aD aE aF aG aH aI).bind λ(bf,bg,bh,bi,bj,bk,_)=>
let bm:LDEn:=[(2,(an,(0,(an,(ap,(aq,(av,(ax,(ay,(az,(aA,(aB,(aD,(aE,(aF,(aG,(aH,aI)))))))))))))))))];
bif (d9 184 bc.length bm.length) then let bn:LDEn:=(List.append bc bm);
bif decide (x0>=0) then ((o8 x0 0 aJ aK aL bf bg bh bi bj aS aT aU aV aW aY aZ ba bn bd).bind λ(bo)=>
some (bo)) else
some (aJ,aK,aL,bf,bg,bh,bi,bj,aS,aT,aU,aV,aW,aY,aZ,ba,bn,bd,()) else none
def BL:X.Cfg:=⟨E0,[pL,s7,A7,yl],[(56,NC),(57,NC)],[⟨2,0,qE,[(.normal,qS [zaa 0,zaa 3,Uaa 4] [(2,yad),(8,Zac)])]⟩]⟩
def uz:Ctr:=⟨131,102,[.ptr ⟨2,0,[]⟩ [0],.agg Zac],[(2,yad)],[⟨[],[],[(2,yad)]⟩],ap26 j8⟩
theorem Bt:Lk 7 uz:=ls BL (aC sQ (aC Ag (aC HW (aC Fw aN))))
def sA:T2I->Option (T2I⊕(Int×Int×Int×Int×Nat×T1J)):=λ(v0,v1,v2,v3,v4,v5,v6,v7,v8,v9,v10,v11,_)=>
bif decide (v6 < v5) then (((ee v6).bind λx0=>
(dO v10 v4).bind λx1=>
(dO x1 x0).bind λx2=>
(dO v10 v4).bind λx3=>
(dO x3 x0).bind λx4=>
bif (x4 != v0) then (bif (d9 8 v11.length (List.length [x4])) then let x5:List (Int):=(List.append v11 [x4]);
some (v0,v1,v2,v3,v4,v5,v6,v7,v8,v9,v10,x5,()) else none) else
some (v0,v1,v2,v3,v4,v5,v6,v7,v8,v9,v10,v11,()):Option (T2I)).bind λ(x0,x1,x2,x3,x4,x5,x6,x7)=>
let af:=w64 (x6+1);
some (.inl (x0,x1,x2,x3,x4,x5,af,x7))) else
some (.inr (v0,v1,v2,v3,v4,v5,v6,false,v7,v8,v9,v10,v11,()))
def sy:T1z->Option (T1z⊕(Int×T1v)):=λ(v0,v1,v2,v3,v4,v5,v6,_)=>
bif decide (v2 < v1) then ((ee v2).bind λx0=>
(dO v6 x0).bind λx1=>
(dO v6 x0).bind λx2=>
(dO v6 x0).bind λx3=>
let x4:=dQ x3.length;
(dW sA NN (v0,v2,v1,v2,x0,x4,0,v3,v4,v5,v6,[],())).bind λ(x5,x6,x7,x8,x9,ac,ae,af,ag,ah,ai,aj,ak,_)=>
(ee x6).bind λam=>
(dO aj am).bind λan=>
(dO aj am).bind λap=>
let aq:=List.modify aj am λe=>ak;
let av:=w64 (x8+1);
some (.inl (x5,x7,av,ag,ah,ai,aq,()))) else
some (.inr (v0,v1,v2,false,v3,v4,v5,v6,()))
def sx:T1N->Option (T1N⊕(Int×T1J)):=λ(v0,v1,v2,v3,v4,v5,v6,v7,_)=>
bif decide (v2 < v1) then ((kK v5 v6 v2 v0).bind λ(x0,x1,x2,x3,_)=>
(bif x3 then (bif decide (x2>=0) then (bif (d9 8 v7.length (List.length [x2])) then let x4:List (Int):=(List.append v7 [x2]);
some (v0,v1,v2,v3,v4,v5,v6,x4,x0,x1,()) else none) else
some (v0,v1,v2,v3,v4,v5,v6,v7,x0,x1,())) else
some (v0,v1,v2,v3,v4,v5,v6,v7,x0,x1,()):Option (Int×Int×Int×Unit×Unit×LI×LLI×LI×T08)).bind λ(x4,x5,x6,x7,x8,x9,ac,ae,af,ag,_)=>
let ah:=w64 (x6+1);
some (.inl (x4,x5,ah,x7,x8,af,ag,ae,()))) else
some (.inr (v0,v1,v2,false,v3,v4,v5,v6,v7,()))
def pi(a0:List (Int)) (a1:List LI) (a2:Int):Option (T0p):=
(mV a0 a1).bind λ(x0,x1,_)=>
let x2:=dQ x1.length;
(dW sy NN (a2,x2,0,(),(),x0,x1,())).bind λ(x3,x4,x5,x6,x7,x8,x9,ac,_)=>
let ae:=dQ x9.length;
(dW sx NN (x3,ae,0,x7,x8,x9,ac,[],())).bind λ(af,ag,ah,ai,aj,ak,am)=>
some (am)
def Ge:X.Cfg:=⟨E0,[pM,pL],[],[⟨15,0,qE,[(.normal,(qS [Uaa 1,zaa 4,zaa 6,Uaa 7,Zaa 9 21,(20,.pk ⟨14,1,[]⟩ [0,0]),Uaa 21,Uaa 22,(27,.pk ⟨14,1,[((),(1,0))]⟩ [0,0,0]),Uaa 28,Uaa 29] [(10,Xab),(14,Uae),(21,yae)]))]⟩,⟨12,1,(qS [Uaa 1,zaa 4,zaa 6,Uaa 7,Zaa 9 21,(20,.pk ⟨14,1,[]⟩ [0,0]),Uaa 21,Uaa 22,(27,.pk ⟨14,1,[((),(1,0))]⟩ [0,0,0]),Uaa 28,Uaa 29] [(10,Xab),(14,Uae),(21,yae)]),[(.exit 2,(qS [Uaa 1,zaa 4,zaa 6,Uaa 7,Zaa 9 21,(20,.pk ⟨14,1,[]⟩ [0,0]),Uaa 21,Uaa 22,(27,.pk ⟨14,1,[((),(1,0))]⟩ [0,0,0]),Uaa 28,Uaa 29,Xaa 30] [(10,Xab),(14,Uae),(21,yae)]))]⟩,(lx 4 2 [Uaa 1,zaa 4,zaa 6,(20,.pk ⟨14,1,[]⟩ [0,0]),Uaa 21,Uaa 22] [(10,Xab),(14,Uae)] 23),⟨27,3,qE,[(.normal,qS [Uaa 1,zaa 4,zaa 6,Zaa 12 27,zaa 14,Uaa 49,Uaa 50] [(10,Xab),(14,yaf),(27,yae),(30,yaf)])]⟩,⟨21,4,qS [Uaa 1,zaa 4,zaa 6,Zaa 12 27,Uaa 49,Uaa 50] [(10,Xab),(14,yaf),(27,yae)],[(.exit 4,qS [Uaa 1,zaa 4,zaa 6,Zaa 12 27,Uaa 49,Uaa 50,Xaa 51] [(10,Xab),(14,yaf),(27,yae)])]⟩]⟩
def yv:Ctr:=⟨167,103,[.agg yaf,shU I64],[],[⟨uL [RI,(yaa RI),(uaa I64)],[.agg 2,.one],[]⟩],ap3 pi⟩
theorem FF:Lk 3 yv:=ls Ge (aC sR (aC sQ aN))
def j7(a0:Int) (a1:Int) (a2:LDIn) (a3:List (Int)) (a4:List LI) (a5:List (Int)) (a6:Int) (a7:LDCe) (a8:LDLn) (a9:LDTh) (a10:List (Int)) (a11:List (Int)) (a12:List LI) (a13:List LDCn) (a14:LDOp) (a15:LDOu) (a16:List (Int)) (a17:List LI) (a18:LDEn):Option (LDIn×LI×LLI×LI×Int×LDCe×LDLn×LDTh×LI×LI×LLI×LLCn×LDOp×LDOu×LI×LLI×LDEn×Unit):=
let x0:=wk .i64 a1;
(eE x0 true).bind λ(x1,x2,x3,x4,x5,x6,x7,_)=>
(mW a2 a3 a4 a5 a6 a7 a8 a9 a0 x1 x2 x3 x4 [] x6 x7).bind λ(x8,x9,ac,ae,af,ag,_)=>
let ah:LDEn:=[(4,(a0,(0,(0,(0,(0,(0,(0,(0,([],([],(x1,(x2,(x3,(x4,([],(x6,x7)))))))))))))))))];
bif (d9 184 a18.length ah.length) then let ai:LDEn:=(List.append a18 ah);
some (a2,a3,a4,x8,x9,ac,ae,af,a10,a11,a12,a13,a14,a15,a16,a17,ai,()) else none
def BI:X.Cfg:=⟨E0,[lX,tk],[(35,NC),(36,NC)],[]⟩
def uw:Ctr:=⟨166,104,[.ptr ⟨2,0,[]⟩ [0],shU I64,shU CW],[(2,Ual)],[⟨[],[],[(2,Ual)]⟩],ap19 j7⟩
theorem Bq:Lk 6 uw:=ls BI (aC nW (aC xV aN))
def rR:T3q->Option (T3q⊕(Int×Int×Int×Bool×T3g)):=λ(v0,v1,v2,v3,v4,v5,v6,v7,v8,v9,v10,v11,v12,v13,v14,v15,v16,v17,v18,v19,v20,v21,_)=>
bif decide (v2 < v1) then ((ee v2).bind λx0=>
(dO v21 x0).bind λx1=>
(dO v21 x0).bind λx2=>
(j7 x2 0 v3 v4 v5 v6 v7 v8 v9 v10 v11 v12 v13 v14 v15 v16 v17 v18 v19).bind λ(x3,x4,x5,x6,x7,x8,x9,ac,ae,af,ag,ah,ai,aj,ak,am,an,_)=>
let ap:=w64 (v2+1);
some (.inl (v0,v1,ap,x3,x4,x5,x6,x7,x8,x9,ac,ae,af,ag,ah,ai,aj,ak,am,an,v20,v21,()))) else
some (.inr (v0,v1,v2,false,v3,v4,v5,v6,v7,v8,v9,v10,v11,v12,v13,v14,v15,v16,v17,v18,v19,v20,v21,()))
def rQ:T3o->Option (T3o⊕(Int×Int×T3i)):=λ(v0,v1,v2,v3,v4,v5,v6,v7,v8,v9,v10,v11,v12,v13,v14,v15,v16,v17,v18,v19,v20,_)=>
bif decide (v2 < v1) then (((ee v2).bind λx0=>
(dO v20 x0).bind λx1=>
(dO v20 x0).bind λx2=>
bif (x2==v0) then ((ee v0).bind λx3=>
(dO v10 x3).bind λx4=>
(j7 v2 x4.2.2.2.2.2.2.2 v3 v4 v5 v6 v7 v8 v9 v10 v11 v12 v13 v14 v15 v16 v17 v18 v19).bind λ(x5,x6,x7,x8,x9,ac,ae,af,ag,ah,ai,aj,ak,am,an,ap,aq,_)=>
(ee v2).bind λav=>
(dO v20 av).bind λax=>
(dO v20 av).bind λay=>
let az:=List.modify v20 av λe=>(-1);
some (v0,v1,v2,x5,x6,x7,x8,x9,ac,ae,af,ag,ah,ai,aj,ak,am,an,ap,aq,az,())) else
some (v0,v1,v2,v3,v4,v5,v6,v7,v8,v9,v10,v11,v12,v13,v14,v15,v16,v17,v18,v19,v20,()):Option (T3o)).bind λ(x0,x1,x2,x3,x4,x5,x6,x7,x8,x9,ac,ae,af,ag,ah,ai,aj,ak,am,an,ap,_)=>
let aq:=w64 (x2+1);
some (.inl (x0,x1,aq,x3,x4,x5,x6,x7,x8,x9,ac,ae,af,ag,ah,ai,aj,ak,am,an,ap,()))) else
some (.inr (v0,v1,v2,false,v3,v4,v5,v6,v7,v8,v9,v10,v11,v12,v13,v14,v15,v16,v17,v18,v19,v20,()))
def ld(a0:Int) (a1:LDIn) (a2:List (Int)) (a3:List LI) (a4:List (Int)) (a5:Int) (a6:LDCe) (a7:LDLn) (a8:LDTh) (a9:List (Int)) (a10:List (Int)) (a11:List LI) (a12:List LDCn) (a13:LDOp) (a14:LDOu) (a15:List (Int)) (a16:List LI) (a17:LDEn) (a18:List (Int)):Option (T3b):=
(pi a15 a16 a0).bind λ(x0,x1,x2,_)=>
let x3:=dQ x2.length;
(dW rR NN (a0,x3,0,a1,a2,a3,a4,a5,a6,a7,a8,a9,a10,a11,a12,a13,a14,x0,x1,a17,a18,x2,())).bind λ(x4,x5,x6,x7,x8,x9,ac,ae,af,ag,ah,ai,aj,ak,am,an,ap,aq,av,ax,ay,az,aA,_)=>
let aB:=dQ az.length;
(dW rQ NN (x4,aB,0,x8,x9,ac,ae,af,ag,ah,ai,aj,ak,am,an,ap,aq,av,ax,ay,az,())).bind λ(aD,aE,aF,aG,aH)=>
some (aH)
def DR:X.Cfg:=⟨E0,[yv,uw],[],[(lx 4 0 [zaa 0,Uaa 1,Zaa 23 13,Uaa 24,Uaa 25] [(2,yad),(13,yae)] 26),⟨13,1,qE,[(.normal,(qS [zaa 0,Uaa 1,(36,.pk ⟨2,17,[]⟩ [0,0]),Uaa 37,Uaa 38] [(2,yad)]))]⟩,⟨10,2,(qS [zaa 0,Uaa 1,(36,.pk ⟨2,17,[]⟩ [0,0]),Uaa 37,Uaa 38] [(2,yad)]),[(.exit 2,(qS [zaa 0,Uaa 1,(36,.pk ⟨2,17,[]⟩ [0,0]),Uaa 37,Uaa 38,Xaa 39] [(2,yad)]))]⟩]⟩
def vZ:Ctr:=⟨132,105,[.ptr ⟨2,0,[]⟩ [0],shU I64],[(2,yad)],[⟨[],[],[(2,yad)]⟩],ap19 ld⟩
theorem Do:Lk 7 vZ:=ls DR (aC FF (aC Bq aN))
def o9(a0:LDIn) (a1:List (Int)) (a2:List LI) (a3:List (Int)) (a4:Int) (a5:LDCe) (a6:LDLn) (a7:LDTh) (a8:List (Int)) (a9:List (Int)) (a10:List LI) (a11:List LDCn) (a12:LDOp) (a13:LDOu) (a14:List (Int)) (a15:List LI) (a16:LDEn) (a17:List (Int)) (a18:Int) (a19:Int) (a20:Bool):Option (LDIn×LI×LLI×LI×Int×LDCe×LDLn×LDTh×LI×LI×LLI×LLCn×LDOp×LDOu×LI×LLI×LDEn×T07):=
(nK a7).bind λ(x0,_)=>
let x1:=dQ x0.length;
bif (x1==0) then (some ([],[],[],[],0,[],[],[],[],[],[],[],[],[],[],[],[],[],15,())) else
let x2:=dQ a16.length;
bif decide (x2 > 192) then (some ([],[],[],[],0,[],[],[],[],[],[],[],[],[],[],[],[],[],3,())) else
let x3:=dQ x0.length;
(iS a18 x3).bind λ(x4,_)=>
(ee x4).bind λx5=>
(dO x0 x5).bind λx6=>
(dO x0 x5).bind λx7=>
(iS a19 64).bind λ(x8,_)=>
let x9:=w64 (1+x8);
(mC a0 a1 a2 a3 a4 a5 a6 a7 a8 a9 a10 a11 a12 a13 a14 a15 a16 a17).bind λ(ac,ae,af,ag,ah,ai,aj,ak,am,an,ap,aq,av,ax,ay,az,aA,aB,_)=>
(match (bif a20 then ((oo ag ah ai aj ak x7).bind λ(aD,_)=>
bif aD then ((lj ag ah ai aj ak x7).bind λ(aE,aF,aG,aH,aI,aJ,_)=>
let aK:LDEn:=[(3,(x7,(0,(0,(0,(0,(0,(0,(0,([],([],(0,(0,(0,(0,([],(0,false)))))))))))))))))];
bif (d9 184 aA.length aK.length) then let aL:LDEn:=(List.append aA aK);
some (.inl (x7,x9,(),(),(),(),0,(),(),(),(),(),(),(),(),(),(),(),(),(),ac,ae,af,aE,aF,aG,aH,aI,am,an,ap,aq,av,ax,ay,az,aL,aB,())) else none) else
some (.inr (x7,x9,(),(),(),(),0,(),(),(),(),(),(),(),(),(),(),(),(),(),ac,ae,af,ag,ah,ai,aj,ak,am,an,ap,aq,av,ax,ay,az,aA,aB,()))) else
some (.inr (x7,x9,(),(),(),(),0,(),(),(),(),(),(),(),(),(),(),(),(),(),ac,ae,af,ag,ah,ai,aj,ak,am,an,ap,aq,av,ax,ay,az,aA,aB,())):Option (T3W⊕T3W)) with
| none=>none
| some (.inl (aD,aE,aF,aG,aH,aI,aJ,aK,aL,aM,aO,aP,aQ,aR,aS,aT,aU,aV,aW,aY,aZ,ba,bc,bd,bf,bg,bh,bi,bj,bk,bm,bn,bo,bp,bq,bt,bv,bx,_))=>
(mY aZ ba bc bd bf bg bh bi aD aE).bind λ(bA,bB,bC,bD,bE,bF,bG,bH,bI,bJ,bK,bL,bM,bN,_)=>
let bO:LDEn:=[(1,(aD,(aE,(bF,(bG,(bH,(bI,(bJ,(bK,(bL,(bM,(0,(0,(0,(0,([],(0,false)))))))))))))))))];
bif (d9 184 bv.length bO.length) then let bP:LDEn:=(List.append bv bO);
(bif (bG==1) then ((j8 bF bG bH bI bJ bK bL bM aZ ba bc bA bB bC bD bE bj bk bm bn bo bp bq bt bP bx).bind λ(bQ,bR,bS,bT,bU,bV,bW,bY,bZ,b8,b9,ca,cd,cf,cg,ch,ci,cj,_)=>
some (aD,aF,aG,aH,aI,aJ,aK,aL,aM,aO,aP,aQ,aR,aS,aT,aU,aV,aW,aY,bQ,bR,bS,bT,bU,bV,bW,bY,bZ,b8,b9,ca,cd,cf,cg,ch,ci,cj,())) else
some (aD,aF,aG,aH,aI,aJ,aK,aL,aM,aO,aP,aQ,aR,aS,aT,aU,aV,aW,aY,aZ,ba,bc,bA,bB,bC,bD,bE,bj,bk,bm,bn,bo,bp,bq,bt,bP,bx,()):Option (T3O)).bind λ(bQ,bR,bS,bT,bU,bV,bW,bY,bZ,b8,b9,ca,cd,cf,cg,ch,ci,cj,cn,cq,cr,cu,cw,cx,cy,cz,cD,cE,cF,cG,cH,cI,cJ,cK,cL,cM,cN,_)=>
((ee bQ).bind λcO=>
(dO cD cO).bind λcP=>
bif (cP.1==4) then ((ld bQ cq cr cu cw cx cy cz cD cE cF cG cH cI cJ cK cL cM cN).bind λ(cQ,cR,cS,cT,cU,cV,cW,cX,cY,cZ,dc,de,df,dg,dh,dk,dl,dm,_)=>
some (bR,bS,bT,bU,bV,bW,bY,bZ,b8,b9,ca,cd,cf,cg,ch,ci,cj,cn,cQ,cR,cS,cT,cU,cV,cW,cX,cY,cZ,dc,de,df,dg,dh,dk,dl,dm,())) else
some (bR,bS,bT,bU,bV,bW,bY,bZ,b8,b9,ca,cd,cf,cg,ch,ci,cj,cn,cq,cr,cu,cw,cx,cy,cz,cD,cE,cF,cG,cH,cI,cJ,cK,cL,cM,cN,()):Option (T3L)).bind λ(cO,cP,cQ,cR,cS,cT,cU,cV,cW,cX,cY,cZ,dc,de,df,dg,dh,dk,dl,dm,dn,dp,dq,dx,dy,dz,dA,dB,dC,dD,dE,dF,dG,dH,dI,dJ,_)=>
some (dl,dm,dn,dp,dq,dx,dy,dz,dA,dB,dC,dD,dE,dF,dG,dH,dI,dJ,0,()) else none
| some (.inr (aD,aE,aF,aG,aH,aI,aJ,aK,aL,aM,aO,aP,aQ,aR,aS,aT,aU,aV,aW,aY,aZ,ba,bc,bd,bf,bg,bh,bi,bj,bk,bm,bn,bo,bp,bq,bt,bv,bx,_))=>
(mY aZ ba bc bd bf bg bh bi aD aE).bind λ(bA,bB,bC,bD,bE,bF,bG,bH,bI,bJ,bK,bL,bM,bN,_)=>
let bO:LDEn:=[(1,(aD,(aE,(bF,(bG,(bH,(bI,(bJ,(bK,(bL,(bM,(0,(0,(0,(0,([],(0,false)))))))))))))))))];
bif (d9 184 bv.length bO.length) then let bP:LDEn:=(List.append bv bO);
(bif (bG==1) then ((j8 bF bG bH bI bJ bK bL bM aZ ba bc bA bB bC bD bE bj bk bm bn bo bp bq bt bP bx).bind λ(bQ,bR,bS,bT,bU,bV,bW,bY,bZ,b8,b9,ca,cd,cf,cg,ch,ci,cj,_)=>
some (aD,aF,aG,aH,aI,aJ,aK,aL,aM,aO,aP,aQ,aR,aS,aT,aU,aV,aW,aY,bQ,bR,bS,bT,bU,bV,bW,bY,bZ,b8,b9,ca,cd,cf,cg,ch,ci,cj,())) else
some (aD,aF,aG,aH,aI,aJ,aK,aL,aM,aO,aP,aQ,aR,aS,aT,aU,aV,aW,aY,aZ,ba,bc,bA,bB,bC,bD,bE,bj,bk,bm,bn,bo,bp,bq,bt,bP,bx,()):Option (T3O)).bind λ(bQ,bR,bS,bT,bU,bV,bW,bY,bZ,b8,b9,ca,cd,cf,cg,ch,ci,cj,cn,cq,cr,cu,cw,cx,cy,cz,cD,cE,cF,cG,cH,cI,cJ,cK,cL,cM,cN,_)=>
((ee bQ).bind λcO=>
(dO cD cO).bind λcP=>
bif (cP.1==4) then ((ld bQ cq cr cu cw cx cy cz cD cE cF cG cH cI cJ cK cL cM cN).bind λ(cQ,cR,cS,cT,cU,cV,cW,cX,cY,cZ,dc,de,df,dg,dh,dk,dl,dm,_)=>
some (bR,bS,bT,bU,bV,bW,bY,bZ,b8,b9,ca,cd,cf,cg,ch,ci,cj,cn,cQ,cR,cS,cT,cU,cV,cW,cX,cY,cZ,dc,de,df,dg,dh,dk,dl,dm,())) else
some (bR,bS,bT,bU,bV,bW,bY,bZ,b8,b9,ca,cd,cf,cg,ch,ci,cj,cn,cq,cr,cu,cw,cx,cy,cz,cD,cE,cF,cG,cH,cI,cJ,cK,cL,cM,cN,()):Option (T3L)).bind λ(cO,cP,cQ,cR,cS,cT,cU,cV,cW,cX,cY,cZ,dc,de,df,dg,dh,dk,dl,dm,dn,dp,dq,dx,dy,dz,dA,dB,dC,dD,dE,dF,dG,dH,dI,dJ,_)=>
some (dl,dm,dn,dp,dq,dx,dy,dz,dA,dB,dC,dD,dE,dF,dG,dH,dI,dJ,0,()) else none)
def F1:X.Cfg:=⟨E0,[wt,u4,uy,uZ,tg,yw,uz,vZ],[(60,NC),(61,NC),(82,NC),(83,NC)],[⟨11,0,qE,[(.normal,(qS [zaa 4,Uaa 7,Uaa 8,zaa 9] [(10,Zag),(20,uL [ff,RI,(yaa RW),RI,CW,(uaa KCe),jG,p9,RW,RW,(yaa RW),(yaa ej),iK,j5,RI,(yaa RI),(uaa u7),(uaa I64)])])),(.normal,qS [zaa 4,Uaa 7,Uaa 8,zaa 9] [(10,Zag),(20,yad)])]⟩,⟨17,1,qE,[(.normal,qS [zaa 4,Uaa 7,zaa 9] [(10,Zag),(20,yad)])]⟩,⟨19,2,qE,[(.normal,qS [zaa 4,zaa 9] [(10,Zag),(20,yad)])]⟩]⟩
def ym:Ctr:=⟨77,106,[.agg uaf,.agg zai],[],[⟨uL [ff,RI,(yaa RW),RI,CW,fq,fV,gD,RW,RW,(yaa RW),(yaa ej),iK,j5,RI,(yaa RI),(uaa u7),(uaa I64),I64],[.agg 18,.one],[]⟩],ap21 o9⟩
theorem Fy:Lk 8 ym:=ls F1 (aC Dz (aC Aq (aC Bs (aC Ak (aC Aj (aC FG (aC Bt (aC Do aN))))))))
def q8:T40->Option (T40⊕((Int×Bool×LI×Int×Unit×Unit×Unit×Unit×Int×Unit×Unit×Unit×Unit×Unit×Unit×Unit×Unit×Unit×Unit×Unit×Unit×Unit×LDIn×LI×LLI×LI×Int×LDCe×LDLn×LDTh×LI×LI×LLI×LLCn×LDOp×LDOu×LI×LLI×LDEn×LI×T3b)⊕(Int×Bool×T3X))):=λ(v0,v1,v2,v3,v4,v5,v6,v7,v8,v9,v10,v11,v12,v13,v14,v15,v16,v17,v18,v19,v20,v21,v22,v23,v24,v25,v26,v27,v28,v29,v30,v31,v32,v33,v34,v35,v36,v37,v38,_)=>
bif decide (v0 > 0) then ((nT v1 v2).bind λ(x0,x1,x2,x3,x4,_)=>
(o9 v21 v22 v23 v24 v25 v26 v27 v28 v29 v30 v31 v32 v33 v34 v35 v36 v37 v38 x0 x1 x2).bind λ(x5,x6,x7,x8,x9,ac,ae,af,ag,ah,ai,aj,ak,am,an,ap,aq,av,ax,_)=>
bif (ax != 0) then (some (.inr (.inl (v0,true,x3,x4,v3,v4,v5,v6,v7,v8,v9,v10,v11,v12,v13,v14,v15,v16,v17,v18,v19,v20,v21,v22,v23,v24,v25,v26,v27,v28,v29,v30,v31,v32,v33,v34,v35,v36,v37,v38,x5,x6,x7,x8,x9,ac,ae,af,ag,ah,ai,aj,ak,am,an,ap,aq,av,())))) else
let ay:=w64 (v0 - 1);
some (.inl (ay,x3,x4,v3,v4,v5,v6,v7,v8,v9,v10,v11,v12,v13,v14,v15,v16,v17,v18,v19,v20,x5,x6,x7,x8,x9,ac,ae,af,ag,ah,ai,aj,ak,am,an,ap,aq,av,()))) else
some (.inr (.inr (v0,false,v1,v2,v3,v4,v5,v6,v7,v8,v9,v10,v11,v12,v13,v14,v15,v16,v17,v18,v19,v20,v21,v22,v23,v24,v25,v26,v27,v28,v29,v30,v31,v32,v33,v34,v35,v36,v37,v38,())))
def tQ(a0:List (Int)) (a1:Int):Option (LDIn×LI×LLI×LI×Int×LDCe×LDLn×LDTh×LI×LI×LLI×LLCn×LDOp×LDOu×LI×LLI×LDEn×LI×T07):=
(mJ a0 a1).bind λ(x0,x1,x2,x3,x4,_)=>
(nS x1 x3 x4).bind λ(x5,x6,x7,x8,_)=>
(mK x7 x8).bind λ(x9,ac,ae,af,ag,ah,ai,aj,_)=>
(qO x0 x1 x2 x5 x6 x9 ac ae af ag []).bind λ(ak,am,an,ap,aq,av,ax,ay,az,aA,aB,aD,aE,aF,aG,aH,aI,aJ,aK,_)=>
(dT 16 ai aj).bind λ(aL,aM,aO,_)=>
let aP:=w64 (3+aL);
(match dW q8 NN (aP,aM,aO,(),(),(),(),0,(),(),(),(),(),(),(),(),(),(),(),(),(),ak,am,an,ap,aq,av,ax,ay,az,aA,aB,aD,aE,aF,aG,aH,[],aJ,()) with
| none=>none
| some (.inl (aQ,aR,aS,aT,aU,aV,aW,aY,aZ,ba,bc,bd,bf,bg,bh,bi,bj,bk,bm,bn,bo,bp,bq,bt,bv,bx,bA,bB,bC,bD,bE,bF,bG,bH,bI,bJ,bK,bL,bM,bN,_))=>
some (bq,bt,bv,bx,bA,bB,bC,bD,bE,bF,bG,bH,bI,bJ,bK,bL,bM,bN,aS,aT,())
| some (.inr (aQ,aR,aS,aT,aU,aV,aW,aY,aZ,ba,bc,bd,bf,bg,bh,bi,bj,bk,bm,bn,bo,bp,bq,bt,bv,bx,bA,bB,bC,bD,bE,bF,bG,bH,bI,bJ,bK,bL,bM,bN,_))=>
some (bq,bt,bv,bx,bA,bB,bC,bD,bE,bF,bG,bH,bI,bJ,bK,bL,bM,bN,aS,aT,()))
def KQ:X.Cfg:=⟨E0,[uI,wG,uJ,wd,gu,wH,ym],[],[⟨5,0,qS [zaa 0,zaa 2,zaa 4,Uaa 6] [(2,Uab),(6,Zag),(10,yad)],[(.exit 0,qS [zaa 0,zaa 2,zaa 4,Uaa 6,zaa 7,Xaa 37] [(2,Uab),(6,Zag),(10,uaf),(16,yad)]),(.exit 0,qS [zaa 0,zaa 2,zaa 4,Uaa 6,Xaa 26] [(2,Uab),(6,Zag),(10,yad)])]⟩]⟩
def CR:Ctr:=⟨27,107,[.ptr ⟨2,0,[]⟩ [0]],[(2,Uab)],[⟨uaf,[.agg 18],[(2,Uab)]⟩],ap2 tQ⟩
theorem KI:Lk 9 CR:=ls KQ (aC BC (aC DM (aC BD (aC Dp (aC gT (aC DN (aC Fy aN)))))))
def ib:T2U->Option (T2U⊕(LI×Int×LI×Int×Int×Int×Int×Bool×T1g)):=λ(v0,v1,v2,v3,v4,v5,v6,v7,v8,v9,v10,v11,v12,_)=>
bif decide (v6 < v5) then ((ee v1).bind λx0=>
(dO v9 x0).bind λx1=>
let x2:=w64 (x1+v6);
(mZ v7 v8 x2).bind λ(x3,x4,_)=>
(iR v9 v10 v0 x3 x4).bind λ(x5,x6,x7,x8,_)=>
let x9:LDCn:=[(x5,(x6,(x7,x8)))];
bif (d9 24 v12.length x9.length) then let ac:LDCn:=(List.append v12 x9);
let ae:=w64 (v6+1);
some (.inl (v0,v1,v2,v3,v4,v5,ae,v7,v8,v9,v10,v11,ac,())) else none) else
some (.inr (v0,v1,v2,v3,v4,v5,v6,false,v7,v8,v9,v10,v11,v12,()))
def ia:T2b->Option (T2b⊕(LI×LI×Int×Int×Bool×T0X)):=λ(v0,v1,v2,v3,v4,v5,v6,v7,v8,_)=>
bif decide (v3 < v2) then ((ee v3).bind λx0=>
(dO v1 x0).bind λx1=>
(dW ib NN (v0,v3,v1,v2,v3,x1,0,v4,v5,v6,v7,v8,[],())).bind λ(x2,x3,x4,x5,x6,x7,x8,x9,ac,ae,af,ag,ah,ai,_)=>
bif (d9 24 ah.length (List.length [ai])) then let aj:List LDCn:=(List.append ah [ai]);
let ak:=w64 (x6+1);
some (.inl (x2,x4,x5,ak,ac,ae,af,ag,aj,())) else none) else
some (.inr (v0,v1,v2,v3,false,v4,v5,v6,v7,v8,()))
def ly(a0:LDCe) (a1:LDLn) (a2:List (Int)) (a3:Int) (a4:List (Int)):Option (LLCn×Unit):=
let x0:=dQ a4.length;
(dW ia NN (a4,a4,x0,0,a0,a1,a2,a3,[],())).bind λ(x1,x2,x3,x4,x5,x6,x7,x8,x9,ac,_)=>
some (ac,())
def AE:X.Cfg:=⟨E0,[tC,n9],[(41,(uaa KCn)),(42,(uaa KCn))],[⟨12,0,qS [sP 2 RI,zaa 3,zaa 4,Zaa 7 17,Uaa 8,Zaa 10 23,sP 12 RI,Uaa 13,Uaa 14,Uaa 19,Uaa 20] [(8,Xad),(10,yab),(17,Xai),(23,Xag)],[(.exit 2,qS [sP 2 RI,zaa 3,zaa 4,Zaa 7 17,Uaa 8,Zaa 10 23,sP 12 RI,Uaa 13,Uaa 14,Uaa 19,Uaa 20,Xaa 21] [(8,Xad),(10,yab),(17,Xai),(23,Xag)])]⟩,(lx 4 1 [sP 2 RI,zaa 3,zaa 4,Zaa 7 17,sP 12 RI,Uaa 13,Uaa 14] [(8,Xad),(10,yab),(17,Xai)] 15)]⟩
def tB:Ctr:=⟨30,108,[.agg Xad,.agg yab,shU RI],[],[⟨Xai,[.one],[]⟩],ap5 ly⟩
theorem Ao:Lk 3 tB:=ls AE (aC yb (aC ri aN))
def i3:T3H->Option (T3H⊕(LDTh×Int×Int×LDCe×Int×Int×Bool×T3B)):=λ(v0,v1,v2,v3,v4,v5,v6,v7,v8,v9,v10,v11,v12,v13,v14,v15,v16,v17,v18,v19,v20,v21,v22,v23,v24,v25,v26,v27,v28,v29,v30,v31,v32,v33,_)=>
bif decide (v5 < v4) then ((ee v5).bind λx0=>
(dO v3 x0).bind λx1=>
(iR v9 v10 v7 x1.1 x1.2).bind λ(x2,x3,x4,x5,_)=>
let x6:LDCn:=[(x2,(x3,(x4,x5)))];
bif (d9 24 v33.length x6.length) then let x7:LDCn:=(List.append v33 x6);
let x8:=w64 (v5+1);
some (.inl (v0,v1,v2,v3,v4,x8,v6,v7,v8,v9,v10,v11,v12,v13,v14,v15,v16,v17,v18,v19,v20,v21,v22,v23,v24,v25,v26,v27,v28,v29,v30,v31,v32,x7,())) else none) else
some (.inr (v0,v1,v2,v3,v4,v5,false,v6,v7,v8,v9,v10,v11,v12,v13,v14,v15,v16,v17,v18,v19,v20,v21,v22,v23,v24,v25,v26,v27,v28,v29,v30,v31,v32,v33,()))
def iZ:T2Z->Option (T2Z⊕(LDTh×Int×Int×Bool×T2N)):=λ(v0,v1,v2,v3,v4,v5,v6,v7,v8,v9,v10,v11,v12,v13,v14,_)=>
bif decide (v2 < v1) then ((ee v2).bind λx0=>
(dO v0 x0).bind λx1=>
let x2:=dQ x1.2.1.length;
(dW i3 NN (v0,v1,v2,x1.2.1,x2,0,v3,v4,v5,v6,v7,v8,v9,v10,v11,v12,v13,v14,x1.1,x1.2.1,x1.2.2.1,x1.2.2.2.1,x1.2.2.2.2.1,x1.2.2.2.2.2.1,x1.2.2.2.2.2.2.1,x1.2.2.2.2.2.2.2,x1.1,x1.2.2.1,x1.2.2.2.1,x1.2.2.2.2.1,x1.2.2.2.2.2.1,x1.2.2.2.2.2.2.1,x1.2.2.2.2.2.2.2,[],())).bind λ(x3,x4,x5,x6,x7,x8,x9,ac,ae,af,ag,ah,ai,aj,ak,am,an,ap,aq,av,ax,ay,az,aA,aB,aD,aE,aF,aG,aH,aI,aJ,aK,aL,aM,_)=>
let aO:LDTs:=[(aF,(aG,(aH,(aI,(aJ,(aK,(aL,aM)))))))];
bif (d9 80 aq.length aO.length) then let aP:LDTs:=(List.append aq aO);
let aQ:=w64 (x5+1);
some (.inl (x3,x4,aQ,ac,ae,af,ag,ah,ai,aj,ak,am,an,ap,aP,())) else none) else
some (.inr (v0,v1,v2,false,v3,v4,v5,v6,v7,v8,v9,v10,v11,v12,v13,v14,()))
def lm(a0:LDIn) (a1:List (Int)) (a2:List LI) (a3:List (Int)) (a4:Int) (a5:LDCe) (a6:LDLn) (a7:LDTh):Option (T0a):=
(ly a5 a6 a3 a4 a1).bind λ(x0,_)=>
let x1:=dQ a7.length;
(dW iZ NN (a7,x1,0,a0,a1,a2,a3,a4,a5,a6,a7,(),(),x0,[],())).bind λ(x2,x3,x4,x5,x6,x7,x8,x9,ac,ae,af,ag,ah,ai,aj)=>
some (aj)
def D2:X.Cfg:=⟨E0,[tB,n9],[(63,Cd),(64,Cd)],[⟨12,0,qS [zaa 2,zaa 3,zaa 4,zaa 5,zaa 8,sP 20 gD,Uaa 21,Uaa 22,sP 42 fq,Uaa 43,Uaa 44] [(6,uab),(8,yac),(10,Xab),(12,Zae),(16,Zad),(18,Xal)],[(.exit 2,qS [zaa 2,zaa 3,zaa 4,zaa 5,zaa 8,sP 20 gD,Uaa 21,Uaa 22,sP 42 fq,Uaa 43,Uaa 44,Xaa 45] [(6,uab),(8,yac),(10,Xab),(12,Zae),(16,Zad),(18,Xal)])]⟩,(lx 4 1 [zaa 2,zaa 3,zaa 4,zaa 5,sP 20 gD,Uaa 21,Uaa 22] [(6,uab),(8,yac),(10,Xab),(12,Zae)] 23)]⟩
def rC:Ctr:=⟨8,109,[.agg uab,.agg yac],[],[⟨Zae,[.agg 2],[]⟩],ap8 lm⟩
theorem vB:Lk 4 rC:=ls D2 (aC Ao (aC ri aN))
def i6:Int×T0n->Option ((Int×T0n)⊕(Int×T0G)):=λ(v0,v1,v2,v3,_)=>
bif decide (v3 < v2) then ((ee v3).bind λx0=>
(dO v1 x0).bind λx1=>
let x2:=w64 (v0+x1);
let x3:=w64 (v3+1);
some (.inl (x2,v1,v2,x3,()))) else
some (.inr (v0,v1,v2,v3,false,()))
def nP(a0:List (Int)):Option (Int×Unit):=
let x0:=dQ a0.length;
(dW i6 NN (0,a0,x0,0,())).bind λ(x1,_)=>
some (x1,())
def Eo:X.Cfg:=⟨E0,[],[],[(lx 4 0 [Uaa 3,sP 6 RI,Uaa 7,Uaa 8] [] 9)]⟩
def wA:Ctr:=⟨80,110,uL [RI],[],[⟨Uac,[.one],[]⟩],ap1 nP⟩
theorem DF:Lk 1 wA:=ls Eo aN
def qW:Int×LI×T0u->Option ((Int×LI×T0u)⊕(T0e⊕T1E)):=λ(v0,v1,v2,v3,v4)=>
bif decide (v3 < v2) then ((ee v3).bind λx0=>
(dO v1 x0).bind λx1=>
(match (bif decide (v0>=0) then (bif decide (v0 < x1) then (some (.inl (0,v3,v0,()))) else
some (.inr (v0,v3,x1,v1,v2,v3,false,v4))) else
some (.inr (v0,v3,x1,v1,v2,v3,false,v4)):Option (T0e⊕(Int×Int×T1E))) with
| none=>none
| some (.inl (x2,x3,x4,_))=>
some (.inr (.inl (x2,x3,x4,())))
| some (.inr (x2,x3,x4,x5,x6,x7,x8,x9))=>
let ae:=w64 (x2 - x4);
let af:=w64 (x7+1);
some (.inl (ae,x5,x6,af,x9)))) else
some (.inr (.inr (v0,v1,v2,v3,false,v4)))
def tP(a0:List (Int)) (a1:Int):Option (T0e):=
let x0:=dQ a0.length;
(match dW qW NN (a1,a0,x0,0,0,0,()) with
| none=>none
| some (.inl (x1,x2,x3,_))=>
some (x2,x3,x1,())
| some (.inr (x1,x2,x3,_))=>
some (0,0,6,()))
def KP:X.Cfg:=⟨E0,[],[],[⟨8,0,qE,[(.ret,qS [zaa 4,Uaa 5] [(10,uad)]),(.normal,qS [Uaa 1,zaa 4,Uaa 6,Uaa 7,sP 8 RI,Uaa 9,Uaa 10,Xaa 21] [(10,uad)])]⟩,⟨3,1,qS [Uaa 1,zaa 4,sP 8 RI,Uaa 9,Uaa 10] [(10,uad)],[(.ret,qS [zaa 4,Uaa 5] [(10,uad)]),(.exit 0,qS [Uaa 1,zaa 4,sP 8 RI,Uaa 9,Uaa 10,Xaa 11] [(10,uad)])]⟩]⟩
def CQ:Ctr:=⟨79,111,Uab,[],[⟨uak,[.agg 2,.one],[]⟩],ap2 tP⟩
theorem KH:Lk 1 CQ:=ls KP aN
def na(a0:List (Int)) (a1:List (Int)) (a2:Int):Option (T1c):=
(dT 6 a1 a2).bind λ(x0,x1,x2,_)=>
bif (x0==4) then ((nP a0).bind λ(x3,_)=>
(dT x3 x1 x2).bind λ(x4,x5,x6,_)=>
(tP a0 x4).bind λ(x7,x8,x9,_)=>
some (1,0,x7,x8,x5,x6,())) else
bif (x0==5) then ((dT 10 x1 x2).bind λ(x3,x4,x5,_)=>
let x6:=wk .u16 x3;
some (2,x6,0,0,x4,x5,())) else
(jz x1 x2).bind λ(x3,x4,x5,_)=>
some (0,x3,0,0,x4,x5,())
def GK:X.Cfg:=⟨E0,[gu,wA,CQ,oP],[],[]⟩
def yM:Ctr:=⟨29,112,[.ptr ⟨2,0,[]⟩ [0],shU RI],[(2,Uab)],[⟨zaf,[.agg 4],[(2,Uab)]⟩],ap3 na⟩
theorem FX:Lk 5 yM:=ls GK (aC gT (aC DF (aC KH (aC ro aN))))
def fc:LDTs×T0m->Option ((LDTs×T0m)⊕((Bool×Unit)⊕(LDTs×T0F))):=λ(v0,v1,v2,v3,_)=>
bif decide (v3 < v2) then ((ee v3).bind λx0=>
(dO v1 x0).bind λx1=>
(bif decide (x1.1>=0) then (bif decide (x1.1<=4) then (bif decide (x1.2.1>=0) then (bif decide (x1.2.1<=255) then (bif decide (x1.2.2.1>=0) then (bif decide (x1.2.2.1<=1099511627776) then (bif (decide (x1.2.2.2.1>=(-1))) then (bif decide (x1.2.2.2.1<=255) then (bif (decide (x1.2.2.2.2.1>=(-1))) then (bif decide (x1.2.2.2.2.1<=255) then (bif decide (x1.2.2.2.2.2.1>=0) then (some (v0,(decide (x1.2.2.2.2.2.1<=6)),v1,v2,v3,x1.1,x1.2.1,x1.2.2.1,x1.2.2.2.1,x1.2.2.2.2.1,x1.2.2.2.2.2.1,x1.2.2.2.2.2.2.1,x1.2.2.2.2.2.2.2,())) else
some (v0,false,v1,v2,v3,x1.1,x1.2.1,x1.2.2.1,x1.2.2.2.1,x1.2.2.2.2.1,x1.2.2.2.2.2.1,x1.2.2.2.2.2.2.1,x1.2.2.2.2.2.2.2,())) else
some (v0,false,v1,v2,v3,x1.1,x1.2.1,x1.2.2.1,x1.2.2.2.1,x1.2.2.2.2.1,x1.2.2.2.2.2.1,x1.2.2.2.2.2.2.1,x1.2.2.2.2.2.2.2,())) else
some (v0,false,v1,v2,v3,x1.1,x1.2.1,x1.2.2.1,x1.2.2.2.1,x1.2.2.2.2.1,x1.2.2.2.2.2.1,x1.2.2.2.2.2.2.1,x1.2.2.2.2.2.2.2,())) else
some (v0,false,v1,v2,v3,x1.1,x1.2.1,x1.2.2.1,x1.2.2.2.1,x1.2.2.2.2.1,x1.2.2.2.2.2.1,x1.2.2.2.2.2.2.1,x1.2.2.2.2.2.2.2,())) else
some (v0,false,v1,v2,v3,x1.1,x1.2.1,x1.2.2.1,x1.2.2.2.1,x1.2.2.2.2.1,x1.2.2.2.2.2.1,x1.2.2.2.2.2.2.1,x1.2.2.2.2.2.2.2,())) else
some (v0,false,v1,v2,v3,x1.1,x1.2.1,x1.2.2.1,x1.2.2.2.1,x1.2.2.2.2.1,x1.2.2.2.2.2.1,x1.2.2.2.2.2.2.1,x1.2.2.2.2.2.2.2,())) else
some (v0,false,v1,v2,v3,x1.1,x1.2.1,x1.2.2.1,x1.2.2.2.1,x1.2.2.2.2.1,x1.2.2.2.2.2.1,x1.2.2.2.2.2.2.1,x1.2.2.2.2.2.2.2,())) else
some (v0,false,v1,v2,v3,x1.1,x1.2.1,x1.2.2.1,x1.2.2.2.1,x1.2.2.2.2.1,x1.2.2.2.2.2.1,x1.2.2.2.2.2.2.1,x1.2.2.2.2.2.2.2,())) else
some (v0,false,v1,v2,v3,x1.1,x1.2.1,x1.2.2.1,x1.2.2.2.1,x1.2.2.2.2.1,x1.2.2.2.2.2.1,x1.2.2.2.2.2.2.1,x1.2.2.2.2.2.2.2,())) else
some (v0,false,v1,v2,v3,x1.1,x1.2.1,x1.2.2.1,x1.2.2.2.1,x1.2.2.2.2.1,x1.2.2.2.2.2.1,x1.2.2.2.2.2.2.1,x1.2.2.2.2.2.2.2,())) else
some (v0,false,v1,v2,v3,x1.1,x1.2.1,x1.2.2.1,x1.2.2.2.1,x1.2.2.2.2.1,x1.2.2.2.2.2.1,x1.2.2.2.2.2.2.1,x1.2.2.2.2.2.2.2,()):Option (LDTs×Bool×LDTs×T2j)).bind λ(x2,x3,x4,x5,x6,x7,x8,x9,ac,ae,af,ag,ah,_)=>
(bif (!x3) then (some (x2,x4,x5,x6,true,())) else
let ai:=dQ ah.length;
bif (ai != 8) then (some (x2,x4,x5,x6,true,())) else
(fA ah 8).bind λ(aj,_)=>
some (x2,x4,x5,x6,(!aj),()):Option (LDTs×T0F)).bind λ(ai,aj,ak,am,an,_)=>
bif an then (some (.inr (.inl (false,())))) else
let ap:=w64 (am+1);
some (.inl (ai,aj,ak,ap,()))) else
some (.inr (.inr (v0,v1,v2,v3,false,())))
def iw(a0:LDTs):Option (Bool×Unit):=
let x0:=dQ a0.length;
(match dW fc NN (a0,a0,x0,0,()) with
| none=>none
| some (.inl (x1,_))=>
some (x1,())
| some (.inr (x1,_))=>
let x6:=dQ x1.length;
some ((x6==4),()))
def AC:X.Cfg:=⟨E0,[ie],[],[⟨8,0,qE,[(.normal,qS [sP 0 (yaa jP),zaa 4,Xaa 5,sP 6 (yaa jP),Uaa 7,Uaa 8] [(10,yah)])]⟩,⟨9,1,qE,[(.normal,qS [sP 0 (yaa jP),sP 6 (yaa jP),Uaa 7,Uaa 8,Xaa 83] [])]⟩,⟨3,2,qS [sP 0 (yaa jP),sP 6 (yaa jP),Uaa 7,Uaa 8] [],[(.ret,qS [Xaa 2] []),(.exit 0,qS [sP 0 (yaa jP),sP 6 (yaa jP),Uaa 7,Uaa 8,Xaa 9] [])]⟩]⟩
def tn:Ctr:=⟨41,113,uL [(yaa jP)],[],[⟨zab,[.one],[]⟩],ap1 iw⟩
theorem Al:Lk 3 tn:=ls AC (aC iX aN)
def fM:T1W->Option (T1W⊕((Bool×Unit)⊕T2d)):=λ(v0,v1,v2,v3,v4,v5)=>
bif decide (v2 < v1) then ((ee v2).bind λx0=>
(dO v0 x0).bind λx1=>
let x2:=dQ x1.length;
(ee v2).bind λx3=>
(dO v4 x3).bind λx4=>
bif (x2 != x4) then (some (.inr (.inl (false,())))) else
(fA x1 32).bind λ(x5,_)=>
bif (!x5) then (some (.inr (.inl (false,())))) else
let x6:=w64 (v2+1);
some (.inl (v0,v1,x6,v3,v4,v5))) else
some (.inr (.inr (v0,v1,v2,false,v3,v4,v5)))
def iP(a0:LDIn) (a1:List (Int)) (a2:List LI) (a3:List LDCn) (a4:LDTs):Option (Bool×Unit):=
((iQ a0 a1 a2).bind λ(x0,_)=>
bif (x0 != 0) then (some (true,a0,a1,a2,a3,a4,())) else
let x1:=dQ a3.length;
let x2:=dQ a1.length;
bif (x1 != x2) then (some (true,a0,a1,a2,a3,a4,())) else
(iw a4).bind λ(x3,_)=>
some ((!x3),a0,a1,a2,a3,a4,()):Option (T16)).bind λ(x0,x1,x2,x3,x4,x5,_)=>
bif x0 then (some (false,())) else
let x6:=dQ x4.length;
(match dW fM NN (x4,x6,0,x1,x2,x3,x4,x5,()) with
| none=>none
| some (.inl (x7,_))=>
some (x7,())
| some (.inr (x7,_))=>
some (true,()))
def D1:X.Cfg:=⟨E0,[n8,tn,ie],[],[⟨2,0,qE,[(.normal,qS [zaa 2,zaa 3,Xaa 24] [(6,uab),(8,zac)])]⟩,⟨6,1,qS [zaa 2,sP 26 (yaa ej),Uaa 27,Uaa 28] [(6,uab),(8,zac)],[(.ret,qS [Xaa 4] []),(.exit 0,qS [zaa 2,sP 26 (yaa ej),Uaa 27,Uaa 28,Xaa 29] [(6,uab),(8,zac)])]⟩]⟩
def wl:Ctr:=⟨15,114,[.agg uab,.agg zac],[],[⟨zab,[.one],[]⟩],ap5 iP⟩
theorem Du:Lk 4 wl:=ls D1 (aC rh (aC Al (aC iX aN)))
def fL:LDTs×Int×Int×LLCn×LDTs×LLCn×Unit->Option ((LDTs×Int×Int×LLCn×LDTs×LLCn×Unit)⊕(LDTs×Int×Int×Bool×LLCn×LDTs×LLCn×Unit)):=λ(v0,v1,v2,v3,v4,v5,_)=>
bif decide (v2 < v1) then ((ee v2).bind λx0=>
(dO v0 x0).bind λx1=>
let x2:List LDCn:=[x1.2.2.2.2.2.2.2];
bif (d9 24 v5.length x2.length) then let x3:List LDCn:=(List.append v5 x2);
let x4:=w64 (v2+1);
some (.inl (v0,v1,x4,v3,v4,x3,())) else none) else
some (.inr (v0,v1,v2,false,v3,v4,v5,()))
def jL(a0:List LDCn) (a1:LDTs):Option (LLCn×Unit):=
bif (d9 24 0 a0.length) then let x0:List LDCn:=(List.append [] a0);
let x1:=dQ a1.length;
(dW fL NN (a1,x1,0,a0,a1,x0,())).bind λ(x2,x3,x4,x5,x6,x7,x8,_)=>
some (x8,()) else none
def D0:X.Cfg:=⟨E0,[],[(8,(uaa KCn)),(19,(uaa KCn)),(20,(uaa KCn))],[(lx 4 0 [Zaa 3 9,sP 10 (yaa jP),Uaa 11,Uaa 12] [(4,zac),(9,Xah)] 13)]⟩
def wi:Ctr:=⟨48,115,[.agg zac],[],[⟨Xah,[.one],[]⟩],ap2 jL⟩
theorem Dt:Lk 1 wi:=ls D0 aN
def eI:T38->Option (T38⊕(T18⊕(Int×Int×LDCn×T31))):=λ(v0,v1,v2,v3,v4,v5,v6,v7)=>
bif decide (v4 < v3) then ((ee v4).bind λx0=>
(dO v2 x0).bind λx1=>
(fQ v6 x1.1 x1.2.1 x1.2.2.1 x1.2.2.2).bind λ(x2,_)=>
bif (!x2) then (some (.inr (.inl (false,(),0,(),(),(),())))) else
let x3:=w64 (v4+1);
some (.inl (v0,v1,v2,v3,x3,v5,v6,v7))) else
some (.inr (.inr (v0,v1,v2,v3,v4,false,v5,v6,v7)))
def eH:T2X->Option (T2X⊕(T18⊕T31)):=λ(v0,v1,v2,v3,v4,v5,v6,v7,v8,v9,v10,v11,v12,v13,v14,_)=>
bif decide (v1 < v0) then ((ee v1).bind λx0=>
(dO v14 x0).bind λx1=>
(dO v14 x0).bind λx2=>
let x3:=dQ x2.length;
(match dW eI NN (v0,v1,x2,x3,0,v2,v3,v4,v5,v6,v7,v8,v9,v10,v11,v12,v13,v14,()) with
| none=>none
| some (.inl (x4,x5,x6,x7,x8,x9,_))=>
some (.inr (.inl (x4,x5,x6,x7,x8,x9,())))
| some (.inr (x4,x5,x6,x7,x8,x9,ac))=>
let ax:=w64 (x5+1);
some (.inl (x4,ax,ac)))) else
some (.inr (.inr (v0,v1,false,v2,v3,v4,v5,v6,v7,v8,v9,v10,v11,v12,v13,v14,())))
def gM:T3r->Option (T3r⊕(Int×LLCn×Int×Int×LDCn×T3k)):=λ(v0,v1,v2,v3,v4,v5,v6,v7,v8,v9,v10,v11,v12,v13,v14,v15,v16,v17,v18,v19,v20,v21,v22)=>
bif decide (v6 < v5) then ((ee v6).bind λx0=>
(dO v4 x0).bind λx1=>
(ee v0).bind λx2=>
(dO v10 x2).bind λx3=>
let x4:=w64 (x3+v6);
(ii v10 v11 v8 x1.1 x1.2.1 x1.2.2.1 x1.2.2.2).bind λ(x5,x6,x7,_)=>
(ee x4).bind λx8=>
(dO v21 x8).bind λx9=>
(dO v21 x8).bind λac=>
let ae:=List.modify v21 x8 λe=>(x5,x6);
let af:=w64 (v6+1);
some (.inl (v0,v1,v2,v3,v4,v5,af,v7,v8,v9,v10,v11,v12,v13,v14,v15,v16,v17,v18,v19,v20,ae,v22))) else
some (.inr (v0,v1,v2,v3,v4,v5,v6,false,v7,v8,v9,v10,v11,v12,v13,v14,v15,v16,v17,v18,v19,v20,v21,v22))
def gL:T3n->Option (T3n⊕(LLCn×T3k)):=λ(v0,v1,v2,v3)=>
bif decide (v2 < v1) then ((ee v2).bind λx0=>
(dO v0 x0).bind λx1=>
let x2:=dQ x1.length;
(dW gM NN (v2,v0,v1,v2,x1,x2,0,v3)).bind λ(x3,x4,x5,x6,x7,x8,x9,ac,ae)=>
let aD:=w64 (x6+1);
some (.inl (x4,x5,aD,ae))) else
some (.inr (v0,v1,v2,false,v3))
def fw:T41->Option (T41⊕(LDTs×Int×Int×LDCn×Int×Int×Bool×T3F)):=λ(v0,v1,v2,v3,v4,v5,v6,v7,v8,v9,v10,v11,v12,v13,v14,v15,v16,v17,v18,v19,v20,v21,v22,v23,v24,v25,v26,v27,v28,v29,v30,v31,v32,v33)=>
bif decide (v5 < v4) then ((ee v5).bind λx0=>
(dO v3 x0).bind λx1=>
(ii v9 v10 v7 x1.1 x1.2.1 x1.2.2.1 x1.2.2.2).bind λ(x2,x3,x4,_)=>
let x5:LDCe:=[(x2,x3)];
bif (d9 4 v32.length x5.length) then let x6:LDCe:=(List.append v32 x5);
let x7:=w64 (v5+1);
some (.inl (v0,v1,v2,v3,v4,x7,v6,v7,v8,v9,v10,v11,v12,v13,v14,v15,v16,v17,v18,v19,v20,v21,v22,v23,v24,v25,v26,v27,v28,v29,v30,v31,x6,v33)) else none) else
some (.inr (v0,v1,v2,v3,v4,v5,false,v6,v7,v8,v9,v10,v11,v12,v13,v14,v15,v16,v17,v18,v19,v20,v21,v22,v23,v24,v25,v26,v27,v28,v29,v30,v31,v32,v33))
def fv:T3m->Option (T3m⊕(LDTs×Int×Int×Bool×T36)):=λ(v0,v1,v2,v3,v4,v5,v6,v7,v8,v9,v10,v11,v12,v13,v14,v15,v16,v17,v18,v19,_)=>
bif decide (v2 < v1) then ((ee v2).bind λx0=>
(dO v0 x0).bind λx1=>
let x2:=dQ x1.2.2.2.2.2.2.2.length;
(dW fw NN (v0,v1,v2,x1.2.2.2.2.2.2.2,x2,0,v3,v4,v5,v6,v7,v8,v9,v10,v11,v12,v13,v14,v15,v16,v17,v18,v19,x1.1,x1.2.1,x1.2.2.1,x1.2.2.2.1,x1.2.2.2.2.1,x1.2.2.2.2.2.1,x1.2.2.2.2.2.2.1,x1.2.2.2.2.2.2.2,x1.1,[],x1.2.1,x1.2.2.1,x1.2.2.2.1,x1.2.2.2.2.1,x1.2.2.2.2.2.1,x1.2.2.2.2.2.2.1,())).bind λ(x3,x4,x5,x6,x7,x8,x9,ac,ae,af,ag,ah,ai,aj,ak,am,an,ap,aq,av,ax,ay,az,aA,aB,aD,aE,aF,aG,aH,aI,aJ,aK,aL,aM,aO,aP,aQ,aR,aS,_)=>
let aT:LDTh:=[(aK,(aL,(aM,(aO,(aP,(aQ,(aR,aS)))))))];
bif (d9 80 aA.length aT.length) then let aU:LDTh:=(List.append aA aT);
let aV:=w64 (x5+1);
some (.inl (x3,x4,aV,ac,ae,af,ag,ah,ai,aj,ak,am,an,ap,aq,av,ax,ay,az,aU,())) else none) else
some (.inr (v0,v1,v2,false,v3,v4,v5,v6,v7,v8,v9,v10,v11,v12,v13,v14,v15,v16,v17,v18,v19,()))
def fF(a0:LDIn) (a1:List (Int)) (a2:List LI) (a3:List (Int)) (a4:Int) (a5:List LDCn) (a6:LDTs):Option (T1l):=
(iP a0 a1 a2 a5 a6).bind λ(x0,_)=>
bif (!x0) then (some ([],0,[],[],[],false,())) else
(gG a3 a4 a1).bind λ(x1,_)=>
bif (!x1) then (some ([],0,[],[],[],false,())) else
(jL a5 a6).bind λ(x2,_)=>
let x3:=dQ x2.length;
(match dW eH NN (x3,0,a0,a1,a2,a3,a4,a5,a6,(),0,(),(),(),x2,()) with
| none=>none
| some (.inl (x4,x5,x6,x7,x8,x9,_))=>
some ([],x6,[],[],[],x4,())
| some (.inr (x4,x5,x6,x7,x8,x9,ac,ae,af,ag,ah,ai,aj,ak,am,an,_))=>
bif (d9 8 0 ac.length) then let ap:List (Int):=(List.append [] ac);
bif (sK 512 512 2) then let aq:LDCe:=(List.replicate 512 (0,0));
(nO).bind λ(av,_)=>
let ax:=dQ af.length;
(dW gL NN (af,ax,0,x7,x8,x9,ac,ae,af,ag,ah,ai,aj,ak,am,ap,ae,aq,av,(),())).bind λ(ay,az,aA,aB,aD,aE,aF,aG,aH,aI,aJ,aK,aL,aM,aO,aP,aQ,aR,aS,aT,aU,_)=>
let aV:=dQ aJ.length;
(dW fv NN (aJ,aV,0,aD,aE,aF,aG,aH,aI,aJ,aK,aL,aM,aO,aP,aQ,aR,aS,aT,[],())).bind λ(aW,aY,aZ,ba,bc,bd,bf,bg,bh,bi,bj,bk,bm,bn,bo,bp,bq,bt,bv,bx,bA,_)=>
some (bq,bt,bv,bx,bA,true,()) else none else none)
def BM:X.Cfg:=⟨E0,[wl,lY,wi,ki,rG,rH],[(150,Ps),(151,Ps)],[⟨12,0,qS [zaa 3,zaa 4,zaa 5,zaa 6,Zaa 37 77,Uaa 38,Uaa 39,sP 43 ej,Uaa 44,Uaa 45] [(8,uab),(10,yab),(12,zac),(14,Zab),(77,Xah)],[(.ret,qS [zaa 6,Xaa 7] [(14,Zab)]),(.exit 2,qS [zaa 3,zaa 4,zaa 5,zaa 6,Zaa 37 77,Uaa 38,Uaa 39,sP 43 ej,Uaa 44,Uaa 45,Xaa 46] [(8,uab),(10,yab),(12,zac),(14,Zab),(77,Xah)])]⟩,⟨6,1,qS [zaa 3,zaa 4,zaa 5,zaa 6,Zaa 37 77,Uaa 38,Uaa 39] [(8,uab),(10,yab),(12,zac),(14,Zab),(77,Xah)],[(.ret,qS [zaa 6,Xaa 7] [(14,Zab)]),(.exit 0,qS [zaa 3,zaa 4,zaa 5,zaa 6,Zaa 37 77,Uaa 38,Uaa 39,Xaa 40] [(8,uab),(10,yab),(12,zac),(14,Zab),(77,Xah)])]⟩,⟨28,2,qS [zaa 3,zaa 4,zaa 5,zaa 6,zaa 12,Uaa 13,sP 68 (yaa ej),Uaa 69,Uaa 70,sP 75 ej,Uaa 76,Uaa 77] [(8,uab),(10,yab),(12,zac),(14,Zab),(26,Zai)],[(.exit 6,qS [zaa 3,zaa 4,zaa 5,zaa 6,zaa 12,Uaa 13,sP 68 (yaa ej),Uaa 69,Uaa 70,sP 75 ej,Uaa 76,Uaa 77,Xaa 78] [(8,uab),(10,yab),(12,zac),(14,Zab),(26,Zai)])]⟩,⟨22,3,qS [zaa 3,zaa 4,zaa 5,zaa 6,zaa 12,sP 68 (yaa ej),Uaa 69,Uaa 70] [(8,uab),(10,yab),(12,zac),(14,Zab),(26,Zai)],[(.exit 4,qS [zaa 3,zaa 4,zaa 5,zaa 6,zaa 12,sP 68 (yaa ej),Uaa 69,Uaa 70,Xaa 71] [(8,uab),(10,yab),(12,zac),(14,Zab),(26,Zai)])]⟩,⟨43,4,qS [zaa 3,zaa 4,zaa 6,zaa 12,zaa 19,sP 104 (yaa jP),Uaa 105,Uaa 106,sP 126 ej,Uaa 127,Uaa 128] [(8,uab),(10,yab),(12,zac),(14,Zab),(26,Xac),(38,yah),(40,Zaf)],[(.exit 10,qS [zaa 3,zaa 4,zaa 6,zaa 12,zaa 19,sP 104 (yaa jP),Uaa 105,Uaa 106,sP 126 ej,Uaa 127,Uaa 128,Xaa 129] [(8,uab),(10,yab),(12,zac),(14,Zab),(26,Xac),(38,yah),(40,Zaf)])]⟩,⟨35,5,qS [zaa 3,zaa 4,zaa 6,zaa 12,sP 104 (yaa jP),Uaa 105,Uaa 106] [(8,uab),(10,yab),(12,zac),(14,Zab),(26,Xac)],[(.exit 8,qS [zaa 3,zaa 4,zaa 6,zaa 12,sP 104 (yaa jP),Uaa 105,Uaa 106,Xaa 107] [(8,uab),(10,yab),(12,zac),(14,Zab),(26,Xac)])]⟩]⟩
def p5:Ctr:=⟨23,116,[.agg uab,.agg yab,.agg zac],[],[⟨Zak,[.agg 5,.one],[]⟩],ap7 fF⟩
theorem up:Lk 5 p5:=ls BM (aC Du (aC nX (aC Dt (aC mP (aC vG (aC uT aN))))))
def mp:T3N->Option (T3N⊕T3V):=λ(v0,v1,v2,v3,v4,v5,v6,v7,v8,v9,v10,v11,v12,v13,v14,v15,v16,v17,v18,v19,v20,v21,v22,v23,v24,v25,v26,v27,v28,v29,v30,v31,v32,v33,v34,v35,v36,_)=>
bif decide (v1 < v0) then (((dT 3 v2 v3).bind λ(x0,x1,x2,_)=>
bif (x0==0) then ((dO v35 0).bind λx3=>
(dO v35 0).bind λx4=>
(na v13 x1 x2).bind λ(x5,x6,x7,x8,x9,ac,_)=>
(ee v1).bind λae=>
(dO v35 0).bind λaf=>
(dO af ae).bind λag=>
(dO v35 0).bind λah=>
(dO ah ae).bind λai=>
let aj:=(List.modify v35 0 λe=>(List.modify e ae λe=>(x5,(x6,(x7,x8)))));
some (v0,v1,x9,ac,v4,v5,v6,v7,v8,v9,v10,v11,v12,v13,v14,v15,v16,v17,v18,v19,v20,v21,v22,v23,v24,v25,v26,v27,v28,v29,v30,v31,v32,v33,v34,aj,v36,())) else
some (v0,v1,x1,x2,v4,v5,v6,v7,v8,v9,v10,v11,v12,v13,v14,v15,v16,v17,v18,v19,v20,v21,v22,v23,v24,v25,v26,v27,v28,v29,v30,v31,v32,v33,v34,v35,v36,()):Option (T3N)).bind λ(x0,x1,x2,x3,x4,x5,x6,x7,x8,x9,ac,ae,af,ag,ah,ai,aj,ak)=>
let aM:=w64 (x1+1);
some (.inl (x0,aM,x2,x3,x4,x5,x6,x7,x8,x9,ac,ae,af,ag,ah,ai,aj,ak))) else
some (.inr (v0,v1,false,v2,v3,v4,v5,v6,v7,v8,v9,v10,v11,v12,v13,v14,v15,v16,v17,v18,v19,v20,v21,v22,v23,v24,v25,v26,v27,v28,v29,v30,v31,v32,v33,v34,v35,v36,()))
def qh:T43->Option (T43⊕(Int×Int×Int×T3V)):=λ(v0,v1,v2,v3,v4,v5,v6,v7,v8,v9,v10,v11,v12,v13,v14,v15,v16,v17,v18,v19,v20,v21,v22,v23,v24,v25,v26,v27,v28,v29,v30,v31,v32,v33,v34,v35,v36,v37,v38,v39,_)=>
bif decide (v4 < v3) then (((dT 3 v5 v6).bind λ(x0,x1,x2,_)=>
bif (x0==0) then ((ee v0).bind λx3=>
(dO v39 x3).bind λx4=>
(dO v39 x3).bind λx5=>
(na v16 x1 x2).bind λ(x6,x7,x8,x9,ac,ae,_)=>
(ee v4).bind λaf=>
(dO v39 x3).bind λag=>
(dO ag.2.2.2.2.2.2.2 af).bind λah=>
(dO v39 x3).bind λai=>
(dO ai.2.2.2.2.2.2.2 af).bind λaj=>
let ak:=(List.modify v39 x3 λe=>(e.1,(e.2.1,(e.2.2.1,(e.2.2.2.1,(e.2.2.2.2.1,(e.2.2.2.2.2.1,(e.2.2.2.2.2.2.1,(List.modify e.2.2.2.2.2.2.2 af λe=>(x6,(x7,(x8,x9))))))))))));
some (v0,v1,v2,v3,v4,ac,ae,v7,v8,v9,v10,v11,v12,v13,v14,v15,v16,v17,v18,v19,v20,v21,v22,v23,v24,v25,v26,v27,v28,v29,v30,v31,v32,v33,v34,v35,v36,v37,v38,ak,())) else
some (v0,v1,v2,v3,v4,x1,x2,v7,v8,v9,v10,v11,v12,v13,v14,v15,v16,v17,v18,v19,v20,v21,v22,v23,v24,v25,v26,v27,v28,v29,v30,v31,v32,v33,v34,v35,v36,v37,v38,v39,()):Option (T43)).bind λ(x0,x1,x2,x3,x4,x5,x6,x7,x8,x9,ac,ae,af,ag,ah,ai,aj,ak,am)=>
let aQ:=w64 (x4+1);
some (.inl (x0,x1,x2,x3,aQ,x5,x6,x7,x8,x9,ac,ae,af,ag,ah,ai,aj,ak,am))) else
some (.inr (v0,v1,v2,v3,v4,false,v5,v6,v7,v8,v9,v10,v11,v12,v13,v14,v15,v16,v17,v18,v19,v20,v21,v22,v23,v24,v25,v26,v27,v28,v29,v30,v31,v32,v33,v34,v35,v36,v37,v38,v39,()))
def mo:T3N->Option (T3N⊕T3V):=λ(v0,v1,v2,v3,v4,v5,v6,v7,v8,v9,v10,v11,v12,v13,v14,v15,v16,v17,v18,v19,v20,v21,v22,v23,v24,v25,v26,v27,v28,v29,v30,v31,v32,v33,v34,v35,v36,_)=>
bif decide (v1 < v0) then (((ee v1).bind λx0=>
(dO v36 x0).bind λx1=>
(dO v36 x0).bind λx2=>
(dO v36 x0).bind λx3=>
let x4:=dQ x3.2.2.2.2.2.2.2.length;
(dW qh NN (v1,v0,v1,x4,0,v2,v3,v4,v5,v6,v7,v8,v9,v10,v11,v12,v13,v14,v15,v16,v17,v18,v19,v20,v21,v22,v23,v24,v25,v26,v27,v28,v29,v30,v31,v32,v33,v34,v35,v36,())).bind λ(x5,x6,x7,x8,x9,ac,ae,af,ag,ah,ai,aj,ak,am,an,ap,aq,av,ax,ay,az,aA,aB,aD,aE,aF,aG,aH,aI,aJ,aK,aL,aM,aO,aP,aQ,aR,aS,aT,aU,aV,_)=>
(dT 4 ae af).bind λ(aW,aY,aZ,_)=>
bif (aW==0) then ((dT 5 aY aZ).bind λ(ba,bc,bd,_)=>
(ee x5).bind λbf=>
(dO aV bf).bind λbg=>
(dO aV bf).bind λbh=>
let bi:=List.modify aV bf λe=>(ba,e.2);
some (x6,x7,bc,bd,ag,ah,ai,aj,ak,am,an,ap,aq,av,ax,ay,az,aA,aB,aD,aE,aF,aG,aH,aI,aJ,aK,aL,aM,aO,aP,aQ,aR,aS,aT,aU,bi,())) else
some (x6,x7,aY,aZ,ag,ah,ai,aj,ak,am,an,ap,aq,av,ax,ay,az,aA,aB,aD,aE,aF,aG,aH,aI,aJ,aK,aL,aM,aO,aP,aQ,aR,aS,aT,aU,aV,()):Option (T3N)).bind λ(x0,x1,x2,x3,x4,x5,x6,x7,x8,x9,ac,ae,af,ag,ah,ai,aj,ak,am,an,ap,aq,av,ax,ay,az,aA,aB,aD,aE,aF,aG,aH,aI,aJ,aK,aL,_)=>
let aM:=w64 (x1+1);
some (.inl (x0,aM,x2,x3,x4,x5,x6,x7,x8,x9,ac,ae,af,ag,ah,ai,aj,ak,am,an,ap,aq,av,ax,ay,az,aA,aB,aD,aE,aF,aG,aH,aI,aJ,aK,aL,()))) else
some (.inr (v0,v1,false,v2,v3,v4,v5,v6,v7,v8,v9,v10,v11,v12,v13,v14,v15,v16,v17,v18,v19,v20,v21,v22,v23,v24,v25,v26,v27,v28,v29,v30,v31,v32,v33,v34,v35,v36,()))
def mL(a0:List (Int)) (a1:Int):Option (LDIn×LI×LLI×LI×Int×LDCe×LDLn×LDTh×T07):=
(tQ a0 a1).bind λ(x0,x1,x2,x3,x4,x5,x6,x7,x8,x9,ac,ae,af,ag,ah,ai,aj,ak,am,an,_)=>
(match ((dT 3 am an).bind λ(ap,aq,av,_)=>
bif (ap==0) then ((lm x0 x1 x2 x3 x4 x5 x6 x7).bind λ(ax,ay,_)=>
(dO ax 0).bind λaz=>
(dO ax 0).bind λaA=>
(dO ax 0).bind λaB=>
let aD:=dQ aB.length;
(dW mp NN (aD,0,aq,av,(),(),(),(),0,(),(),(),x0,x1,x2,x3,x4,x5,x6,x7,x8,x9,ac,ae,af,ag,ah,ai,aj,ak,x3,x4,x5,x6,x7,ax,ay,())).bind λ(aE,aF,aG,aH,aI,aJ,aK,aL,aM,aO,aP,aQ,aR,aS,aT,aU,aV,aW,aY,aZ,ba,bc,bd,bf,bg,bh,bi,bj,bk,bm,bn,bo,bp,bq,bt,bv,bx,bA,_)=>
let bB:=dQ bA.length;
(dW mo NN (bB,0,aH,aI,aJ,aK,aL,aM,aO,aP,aQ,aR,aS,aT,aU,aV,aW,aY,aZ,ba,bc,bd,bf,bg,bh,bi,bj,bk,bm,bn,bo,bp,bq,bt,bv,bx,bA,())).bind λ(bC,bD,bE,bF,bG,bH,bI,bJ,bK,bL,bM,bN,bO,bP,bQ,bR,bS,bT,bU,bV,bW,bY,bZ,b8,b9,ca,cd,cf,cg,ch,ci,cj,cn,cq,cr,cu,cw,cx,_)=>
(fF bP bQ bR cj cn cw cx).bind λ(cy,cz,cD,cE,cF,cG,_)=>
bif cG then (some (.inl (bF,bG,bH,bI,bJ,bK,bL,bM,bN,bO,bP,bQ,bR,bS,bT,bU,bV,bW,bY,bZ,b8,b9,ca,cd,cf,cg,ch,ci,cy,cz,cD,cE,cF,()))) else
some (.inr (bF,bG,bH,bI,bJ,bK,bL,bM,bN,bO,bP,bQ,bR,bS,bT,bU,bV,bW,bY,bZ,b8,b9,ca,cd,cf,cg,ch,ci,cj,cn,cq,cr,cu,()))) else
some (.inr (aq,av,(),(),(),(),0,(),(),(),x0,x1,x2,x3,x4,x5,x6,x7,x8,x9,ac,ae,af,ag,ah,ai,aj,ak,x3,x4,x5,x6,x7,())):Option (T3G⊕T3G)) with
| none=>none
| some (.inl (ap,aq,av,ax,ay,az,aA,aB,aD,aE,aF,aG,aH,aI,aJ,aK,aL,aM,aO,aP,aQ,aR,aS,aT,aU,aV,aW,aY,aZ,ba,bc,bd,bf,_))=>
some (aF,aG,aH,aZ,ba,bc,bd,bf,ap,aq,())
| some (.inr (ap,aq,av,ax,ay,az,aA,aB,aD,aE,aF,aG,aH,aI,aJ,aK,aL,aM,aO,aP,aQ,aR,aS,aT,aU,aV,aW,aY,aZ,ba,bc,bd,bf,_))=>
some (aF,aG,aH,aZ,ba,bc,bd,bf,ap,aq,()))
def B3:X.Cfg:=⟨E0,[CR,gu,rC,yM,p5],[],[⟨11,0,qE,[(.normal,qS [zaa 0,zaa 2,zaa 3,zaa 4,zaa 5,zaa 6,Uaa 27,Uaa 28] [(2,Uab),(6,uae),(8,Zab),(10,uaf),(12,yac),(14,Zae)])]⟩,(lx 8 1 [zaa 0,zaa 2,zaa 3,zaa 4,zaa 5,zaa 6,Uaa 27,Uaa 28] [(2,Uab),(6,uae),(8,Zab),(10,uaf),(12,yac),(14,Zae)] 29),⟨26,2,qE,[(.normal,qS [zaa 0,zaa 2,zaa 3,zaa 4,zaa 5,zaa 6,Uaa 8,Uaa 48,Uaa 49,Uaa 58,Uaa 59] [(2,Uab),(6,uae),(8,Zab),(10,uaf),(12,yac),(14,Zae)])]⟩,⟨23,3,qS [zaa 0,zaa 2,zaa 3,zaa 4,zaa 5,zaa 6,Uaa 8,Uaa 48,Uaa 49,Uaa 58,Uaa 59] [(2,Uab),(6,uae),(8,Zab),(10,uaf),(12,yac),(14,Zae)],[(.exit 4,qS [zaa 0,zaa 2,zaa 3,zaa 4,zaa 5,zaa 6,Uaa 8,Uaa 48,Uaa 49,Uaa 58,Uaa 59,Xaa 60] [(2,Uab),(6,uae),(8,Zab),(10,uaf),(12,yac),(14,Zae)])]⟩,⟨19,4,qE,[(.normal,qS [zaa 0,zaa 2,zaa 3,zaa 4,zaa 5,zaa 6,Uaa 48,Uaa 49] [(2,Uab),(6,uae),(8,Zab),(10,uaf),(12,yac),(14,Zae)])]⟩,⟨16,5,qS [zaa 0,zaa 2,zaa 3,zaa 4,zaa 5,zaa 6,Uaa 48,Uaa 49] [(2,Uab),(6,uae),(8,Zab),(10,uaf),(12,yac),(14,Zae)],[(.exit 2,qS [zaa 0,zaa 2,zaa 3,zaa 4,zaa 5,zaa 6,Uaa 48,Uaa 49,Xaa 50] [(2,Uab),(6,uae),(8,Zab),(10,uaf),(12,yac),(14,Zae)])]⟩,⟨3,6,qE,[(.normal,qS [zaa 0,zaa 2,zaa 3,zaa 4,zaa 5] [(2,Uab),(6,uae),(8,Zab),(10,uaf),(12,Xac)]),(.normal,qS [zaa 0,zaa 2,zaa 3,zaa 4,zaa 5] [(2,Uab),(6,uae),(8,Zab),(10,uaf),(12,yac)])]⟩]⟩
def uK:Ctr:=⟨7,117,[.ptr ⟨2,0,[]⟩ [0]],[(2,Uab)],[⟨uL [ff,RI,(yaa RW),RI,CW,fq,fV,gD],[.agg 3,.agg 5],[(2,Uab)]⟩],ap2 mL⟩
theorem BE:Lk 10 uK:=ls B3 (aC KI (aC gT (aC vB (aC FX (aC up aN)))))
def iz:T2K->Option (T2K⊕(Int×Int×Int×LLCn×Int×Int×Bool×T1r)):=λ(v0,v1,v2,v3,v4,v5,v6,v7,v8,v9,v10,v11,_)=>
bif decide (v5 < v4) then ((ee v5).bind λx0=>
(dO v3 x0).bind λx1=>
bif (d9 24 0 x1.length) then let x2:LDCn:=(List.append [] x1);
bif (d9 24 v10.length (List.length [x2])) then let x3:List LDCn:=(List.append v10 [x2]);
let x4:=w64 (v5+1);
some (.inl (v0,v1,v2,v3,v4,x4,v6,v7,v8,v9,x3,v11,())) else none else none) else
some (.inr (v0,v1,v2,v3,v4,v5,false,v6,v7,v8,v9,v10,v11,()))
def iy:T2J->Option (T2J⊕(Int×Int×Int×LDTs×Int×Int×Bool×T1q)):=λ(v0,v1,v2,v3,v4,v5,v6,v7,v8,v9,v10,v11,_)=>
bif decide (v5 < v4) then ((ee v5).bind λx0=>
(dO v3 x0).bind λx1=>
bif (d9 24 0 x1.2.2.2.2.2.2.2.length) then let x2:LDCn:=(List.append [] x1.2.2.2.2.2.2.2);
let x3:LDTs:=[(x1.1,(x1.2.1,(x1.2.2.1,(x1.2.2.2.1,(x1.2.2.2.2.1,(x1.2.2.2.2.2.1,(x1.2.2.2.2.2.2.1,x2)))))))];
bif (d9 80 v11.length x3.length) then let x4:LDTs:=(List.append v11 x3);
let x5:=w64 (v5+1);
some (.inl (v0,v1,v2,v3,v4,x5,v6,v7,v8,v9,v10,x4,())) else none else none) else
some (.inr (v0,v1,v2,v3,v4,v5,false,v6,v7,v8,v9,v10,v11,()))
def mI(a0:List LDCn) (a1:LDTs) (a2:Int) (a3:Int) (a4:Int):Option (T0a):=
let x0:=dQ a0.length;
(dW iz NN (a2,a3,a4,a0,x0,0,a0,a1,(),(),[],(),())).bind λ(x1,x2,x3,x4,x5,x6,x7,x8,x9,ac,ae,af,ag,_)=>
let ah:=dQ x9.length;
(dW iy NN (x1,x2,x3,x9,ah,0,x8,x9,ac,ae,af,[],())).bind λ(ai,aj,ak,am,an,ap,aq,av,ax,ay,az,aA,aB,_)=>
let aD:=dQ aB.length;
(is aj aD).bind λ(aE,_)=>
let aF:List (Int):=[(-2),(-1),0,1,4,5,6,7,255,256,1099511627777];
(is ak 11).bind λ(aG,_)=>
(ee aG).bind λaH=>
(dO aF aH).bind λaI=>
(dO aF aH).bind λaJ=>
(match ((is ai 10).bind λ(aK,_)=>
bif (aK==0) then ((ee aE).bind λaL=>
(dO aB aL).bind λaM=>
(dO aB aL).bind λaO=>
let aP:=List.modify aB aL λe=>(aJ,e.2);
some (.inl (ay,az,aA,aP,()))) else
bif (aK==1) then ((ee aE).bind λaL=>
(dO aB aL).bind λaM=>
(dO aB aL).bind λaO=>
let aP:=(List.modify aB aL λe=>(e.1,(aJ,e.2.2)));
some (.inl (ay,az,aA,aP,()))) else
bif (aK==2) then ((ee aE).bind λaL=>
(dO aB aL).bind λaM=>
(dO aB aL).bind λaO=>
let aP:=(List.modify aB aL λe=>(e.1,(e.2.1,(e.2.2.1,(e.2.2.2.1,(aJ,e.2.2.2.2.2))))));
some (.inl (ay,az,aA,aP,()))) else
bif (aK==3) then ((ee aE).bind λaL=>
(dO aB aL).bind λaM=>
(dO aB aL).bind λaO=>
let aP:=(List.modify aB aL λe=>(e.1,(e.2.1,(aJ,e.2.2.2))));
some (.inl (ay,az,aA,aP,()))) else
bif (aK==4) then ((ee aE).bind λaL=>
(dO aB aL).bind λaM=>
(dO aB aL).bind λaO=>
(dO aB aL).bind λaP=>
bif (ir 1 aP.2.2.2.2.2.2.2.length aP.2.2.2.2.2.2.2.length) then (dO aB aL).bind λaQ=>
(ee aE).bind λaR=>
(dO aB aR).bind λaS=>
(dO aB aL).bind λaT=>
(dO aB aR).bind λaU=>
let aV:=(List.modify aB aR λe=>(e.1,(e.2.1,(e.2.2.1,(e.2.2.2.1,(e.2.2.2.2.1,(e.2.2.2.2.2.1,(e.2.2.2.2.2.2.1,(kU aT.2.2.2.2.2.2.2 1 (Nat.sub aP.2.2.2.2.2.2.2.length 1))))))))));
some (.inr (.inl (ay,az,aA,aV,()))) else none) else
bif (aK==5) then (bif (ir 1 aA.length aA.length) then let aL:List LDCn:=(kU aA 1 (Nat.sub aA.length 1));
some (.inr (.inr (.inl (ay,az,aL,aB,())))) else none) else
bif (aK==6) then ((dO aA 0).bind λaL=>
(dO aA 0).bind λaM=>
let aO:LDCn:=[(0,(0,(0,0)))];
(dO aA 0).bind λaP=>
bif (d9 24 aP.length aO.length) then let aQ:LDCn:=(List.append aP aO);
(dO aA 0).bind λaR=>
(dO aA 0).bind λaS=>
let aT:=List.modify aA 0 λe=>aQ;
some (.inl (ay,az,aT,aB,())) else none) else
bif (aK==7) then ((dO aA 0).bind λaL=>
(dO aA 0).bind λaM=>
(dO aA 0).bind λaO=>
(dO aA 0).bind λaP=>
(dO aA 0).bind λaQ=>
let aR:=dQ aQ.length;
(is aj aR).bind λ(aS,_)=>
(is ak 4).bind λ(aT,_)=>
let aU:=wk .u8 aT;
(is ak 6).bind λ(aV,_)=>
let aW:=w64 (aV - 1);
(is aj 36).bind λ(aY,_)=>
(ee aS).bind λaZ=>
(dO aA 0).bind λba=>
(dO ba aZ).bind λbc=>
(dO aA 0).bind λbd=>
(dO bd aZ).bind λbf=>
let bg:=(List.modify aA 0 λe=>(List.modify e aZ λe=>(aU,(0,(aW,aY)))));
some (.inl (ay,az,bg,aB,()))) else
bif (aK==8) then (bif (ir 1 aB.length aB.length) then let aL:LDTs:=(kU aB 1 (Nat.sub aB.length 1));
some (.inr (.inr (.inr (ay,az,aA,aL,())))) else none) else
bif (aK==9) then ((ee aE).bind λaL=>
(dO aB aL).bind λaM=>
(dO aB aL).bind λaO=>
(is ak 5).bind λ(aP,_)=>
let aQ:=w64 (aP - 1);
(is aj 36).bind λ(aR,_)=>
(dO aB aL).bind λaS=>
(dO aS.2.2.2.2.2.2.2 0).bind λaT=>
(dO aB aL).bind λaU=>
(dO aU.2.2.2.2.2.2.2 0).bind λaV=>
let aW:=(List.modify aB aL λe=>(e.1,(e.2.1,(e.2.2.1,(e.2.2.2.1,(e.2.2.2.2.1,(e.2.2.2.2.2.1,(e.2.2.2.2.2.2.1,(List.modify e.2.2.2.2.2.2.2 0 λe=>(1,(0,(aQ,aR))))))))))));
some (.inl (ay,az,aA,aW,()))) else
some (.inl (ay,az,aA,aB,())):Option (T0O⊕(T0O⊕(T0O⊕T0O)))) with
| none=>none
| some (.inl (aK,aL,aM,aO,_))=>
some (aM,aO,())
| some (.inr (.inl (aK,aL,aM,aO,_)))=>
some (aM,aO,())
| some (.inr (.inr (.inl (aK,aL,aM,aO,_))))=>
some (aM,aO,())
| some (.inr (.inr (.inr (aK,aL,aM,aO,_))))=>
some (aM,aO,()))
def BW:X.Cfg:=⟨E0,[zE],[(27,(uaa KCn)),(28,(uaa KCn)),(45,Cd),(46,Cd)],[(lx 4 0 [Uaa 1,Uaa 2,Uaa 3,zaa 4,zaa 8,zaa 9,sP 17 (yaa ej),Uaa 18,Uaa 19] [(10,zac),(18,Xab),(20,uL [(uaa (uaa KCn)),N1])] 20),⟨11,1,qS [Uaa 1,Uaa 2,Uaa 3,zaa 8,zaa 9,sP 32 (yaa jP),Uaa 33,Uaa 34] [(10,zac),(18,Xab),(20,Zae)],[(.exit 2,qS [Uaa 1,Uaa 2,Uaa 3,zaa 8,zaa 9,sP 32 (yaa jP),Uaa 33,Uaa 34,Xaa 35] [(10,zac),(18,Xab),(20,Zae)])]⟩,⟨19,2,qE,[(.normal,qS [zaa 8,zaa 9] [(18,Xab),(20,Zae)]),(.normal,(qS [zaa 8,zaa 9] [(18,Xab),(20,uL [(uaa (uaa KCn)),(uaa jP)])])),(.normal,(qS [zaa 8,zaa 9] [(18,Xab),(20,uL [(yaa ej),(uaa Cd)])])),(.normal,(qS [zaa 8,zaa 9] [(18,Xab),(20,uL [(uaa (uaa KCn)),(yaa jP)])]))]⟩]⟩
def uF:Ctr:=⟨9,118,[.agg zac,shU I64,shU I64,shU I64],[],[⟨zac,[.agg 2],[]⟩],ap5 mI⟩
theorem Bz:Lk 3 uF:=ls BW (aC DG aN)
def k9(a0:List (Int)) (a1:Int) (a2:Int):Option (Bool×Unit):=
bif decide (a1>=0) then (let x0:Int:=(dQ a0.length);
bif decide (a1 < x0) then (bif decide (a2>=0) then ((ee a1).bind λx1=>
(dO a0 x1).bind λx2=>
some ((decide (a2 < x2)),())) else
some (false,())) else
some (false,())) else
some (false,())
def Ax:X.Cfg:=⟨E0,[],[],[]⟩
def oM:Ctr:=⟨109,119,[shU RI,.agg uad],[],[⟨zab,[.one],[]⟩],ap3 k9⟩
theorem sO:Lk 1 oM:=ls Ax aN
def kC(a0:List (Int)) (a1:Int) (a2:List (Int)) (a3:Int) (a4:Int):Option (T02):=
(k9 a2 a3 a4).bind λ(x0,_)=>
bif (!x0) then (some (0,6,())) else
let x1:=dQ a0.length;
bif decide (a3>=x1) then (some (0,6,())) else
(ee a3).bind λx2=>
(dO a0 x2).bind λx3=>
let x4:=w64 (x3+a4);
some (x4,0,())
def y8:X.Cfg:=⟨E0,[oM],[],[]⟩
def r8:Ctr:=⟨84,120,[.agg yab,shU RI,.agg uad],[],[⟨uad,[.one,.one],[]⟩],ap5 kC⟩
theorem yW:Lk 2 r8:=ls y8 (aC sO aN)
def ua:T0D->Option (T0D⊕((Bool×Unit)⊕(LDCn×T0C))):=λ(v0,v1,v2,v3,_)=>
bif decide (v3 < v2) then ((ee v3).bind λx0=>
(dO v0 x0).bind λx1=>
(ee v3).bind λx2=>
(dO v1 x2).bind λx3=>
let x4:Bool:=(!((x1.1==x3.1) && ((x1.2.1==x3.2.1) && ((x1.2.2.1==x3.2.2.1) && ((x1.2.2.2==x3.2.2.2) && true)))));
bif x4 then (some (.inr (.inl (false,())))) else
let x5:=w64 (v3+1);
some (.inl (v0,v1,v2,x5,()))) else
some (.inr (.inr (v0,v1,v2,v3,false,())))
def ml(a0:LDCn) (a1:LDCn):Option (Bool×Unit):=
let x0:=dQ a0.length;
let x1:=dQ a1.length;
bif (x0 != x1) then (some (false,())) else
let x2:=dQ a0.length;
(match dW ua NN (a0,a1,x2,0,()) with
| none=>none
| some (.inl (x3,_))=>
some (x3,())
| some (.inr (x3,_))=>
some (true,()))
def xx:X.Cfg:=⟨E0,[],[],[⟨6,0,qS [sP 0 ej,sP 1 ej,Uaa 12,Uaa 13] [],[(.ret,qS [Xaa 4] []),(.exit 0,qS [sP 0 ej,sP 1 ej,Uaa 12,Uaa 13,Xaa 14] [])]⟩]⟩
def qF:Ctr:=⟨32,126,uL [ej,ej],[],[⟨zab,[.one],[]⟩],ap2 ml⟩
theorem xo:Lk 1 qF:=ls xx aN
def pT:Option (T1R):=
bif (sK 8 8 2) then let x0:LDCe:=(List.replicate 8 (0,0));
some (0,x0,0,0,(-1),(-1),0,0,()) else none
def BY:X.Cfg:=⟨E0,[],[],[]⟩
def uH:Ctr:=⟨104,128,[],[],[⟨Zaf,[.agg 8],[]⟩],λh=>pT⟩
theorem BB:Lk 1 uH:=ls BY aN
def i7(a0:Int) (a1:Int) (a2:Int) (a3:Int) (a4:Int) (a5:Int) (a6:Int) (a7:LDCn):Option (T1R):=
(pT).bind λ(x0,x1,_)=>
some (a0,x1,a1,a2,a3,a4,a5,a6,())
def y9:X.Cfg:=⟨E0,[uH],[],[]⟩
def nB:Ctr:=⟨51,129,[.agg yah],[],[⟨Zaf,[.agg 8],[]⟩],ap8 i7⟩
theorem rZ:Lk 2 nB:=ls y9 (aC BB aN)
def fH(a0:Int) (a1:Int) (a2:Int):Option (Bool×Unit):=
bif decide (a0>=a1) then (some ((decide (a0<=a2)),())) else
some (false,())
def yZ:X.Cfg:=⟨E0,[],[],[]⟩
def r7:Ctr:=⟨134,130,uak,[],[⟨zab,[.one],[]⟩],ap3 fH⟩
theorem yV:Lk 1 r7:=ls yZ aN
def xK(a0:Int) (a1:Int):Option (Bool×Unit):=
some ((decide (a0<=2)),())
def FZ:X.Cfg:=⟨E0,[],[],[]⟩
def yk:Ctr:=⟨137,131,[.agg uac],[],[⟨zab,[.one],[]⟩],ap2 xK⟩
theorem Fv:Lk 1 yk:=ls FZ aN
def rP(a0:Int) (a1:Int):Option (Bool×Unit):=
(xK a0 a1).bind λ(x0,_)=>
some ((!x0),())
def yY:X.Cfg:=⟨E0,[yk],[],[]⟩
def r6:Ctr:=⟨136,132,[.agg uac],[],[⟨zab,[.one],[]⟩],ap2 rP⟩
theorem yU:Lk 2 r6:=ls yY (aC Fv aN)
def oR:T0j->Option (T0j⊕((Int×Unit)⊕T0A)):=λ(v0,v1,v2,_)=>
bif decide (v2 < v1) then ((ee v2).bind λx0=>
(dO v0 x0).bind λx1=>
(rP x1.1 x1.2).bind λ(x2,_)=>
bif x2 then (some (.inr (.inl (v2,())))) else
let x3:=w64 (v2+1);
some (.inl (v0,v1,x3,()))) else
some (.inr (.inr (v0,v1,v2,false,())))
def kZ(a0:LDCe):Option (Int×Unit):=
let x0:=dQ a0.length;
(match dW oR NN (a0,x0,0,()) with
| none=>none
| some (.inl (x1,_))=>
some (x1,())
| some (.inr (x1,_))=>
some ((-1),()))
def rq:X.Cfg:=⟨E0,[r6],[],[⟨3,0,(qS [sP 0 fq,(1,.fn 136 []),Uaa 7,Uaa 8] []),[(.ret,qS [Uaa 4] []),(.exit 0,(qS [sP 0 fq,(1,.fn 136 []),Uaa 7,Uaa 8,Xaa 9] []))]⟩]⟩
def lV:Ctr:=⟨168,133,[shU fq,.fn 136 []],[],[⟨Uac,[.one],[]⟩],ap1 kZ⟩
theorem rb:Lk 3 lV:=ls rq (aC yU aN)
def gZ(a0:LDCe):Option (Bool×Unit):=
(kZ a0).bind λ(x0,_)=>
some ((decide (x0>=0)),())
def o5:X.Cfg:=⟨E0,[lV],[],[]⟩
def jV:Ctr:=⟨135,134,[shU fq,.fn 136 []],[],[⟨zab,[.one],[]⟩],ap1 gZ⟩
theorem oV:Lk 4 jV:=ls o5 (aC rb aN)
def pQ(a0:Int) (a1:LDCe) (a2:Int) (a3:Int) (a4:Int) (a5:Int) (a6:Int) (a7:Int):Option (Bool×Unit):=
(fH a0 0 4).bind λ(x0,_)=>
bif x0 then (let x1:Int:=(dQ a1.length);
bif (x1==8) then ((gZ a1).bind λ(x2,_)=>
bif (!x2) then ((fH a2 0 255).bind λ(x3,_)=>
bif x3 then ((fH a3 0 1099511627776).bind λ(x4,_)=>
bif x4 then ((fH a4 (-1) 255).bind λ(x5,_)=>
bif x5 then ((fH a5 (-1) 255).bind λ(x6,_)=>
bif x6 then ((fH a6 0 6).bind λ(x7,_)=>
some (x7,())) else
some (false,())) else
some (false,())) else
some (false,())) else
some (false,())) else
some (false,())) else
some (false,())) else
some (false,())
def BF:X.Cfg:=⟨E0,[r7,jV],[],[]⟩
def uu:Ctr:=⟨89,135,[.agg Zad],[],[⟨zab,[.one],[]⟩],ap8 pQ⟩
theorem Bo:Lk 5 uu:=ls BF (aC yV (aC oV aN))
def mz(a0:Int) (a1:Int) (a2:Int) (a3:Int):Option (Bool×Unit):=
bif (a0==0) then (bif (a2==0) then (some ((a3==0),())) else
some (false,())) else
bif (a0==2) then (bif (a2==0) then (some ((a3==0),())) else
some (false,())) else
bif (a0==1) then ((bif (a2==(-1)) then (bif decide (a3>=0) then (some ((decide (a3<=65535)),a0,a1,a2,a3,())) else
some (false,a0,a1,a2,a3,())) else
some (false,a0,a1,a2,a3,()):Option (T0Q)).bind λ(x0,x1,x2,x3,x4,_)=>
bif (x2==0) then (bif x0 then (some (true,())) else
bif decide (x3>=0) then (bif decide (x3 < 4) then (bif decide (x4>=0) then (some ((decide (x4 < 32)),())) else
some (false,())) else
some (false,())) else
some (false,())) else
some (false,())) else
some (false,())
def BG:X.Cfg:=⟨E0,[],[],[⟨7,0,qE,[(.normal,qS [zaa 1,Xaa 3] [(4,zaf)])]⟩]⟩
def uv:Ctr:=⟨92,136,[.agg zaf],[],[⟨zab,[.one],[]⟩],ap4 mz⟩
theorem Bp:Lk 1 uv:=ls BG aN
def mj(a0:Int) (a1:Int) (a2:Int) (a3:Int):Option (Bool×Unit):=
(mz a0 a1 a2 a3).bind λ(x0,_)=>
some ((!x0),())
def xu:X.Cfg:=⟨E0,[uv],[],[]⟩
def qD:Ctr:=⟨91,137,[.agg zaf],[],[⟨zab,[.one],[]⟩],ap4 mj⟩
theorem xn:Lk 2 qD:=ls xu (aC Bp aN)
def gP:T0k->Option (T0k⊕((Int×Unit)⊕T0C)):=λ(v0,v1,v2,_)=>
bif decide (v2 < v1) then ((ee v2).bind λx0=>
(dO v0 x0).bind λx1=>
(mj x1.1 x1.2.1 x1.2.2.1 x1.2.2.2).bind λ(x2,_)=>
bif x2 then (some (.inr (.inl (v2,())))) else
let x3:=w64 (v2+1);
some (.inl (v0,v1,x3,()))) else
some (.inr (.inr (v0,v1,v2,false,())))
def gj(a0:LDCn):Option (Int×Unit):=
let x0:=dQ a0.length;
(match dW gP NN (a0,x0,0,()) with
| none=>none
| some (.inl (x1,_))=>
some (x1,())
| some (.inr (x1,_))=>
some ((-1),()))
def qy:X.Cfg:=⟨E0,[qD],[],[⟨3,0,(qS [sP 0 ej,(1,.fn 91 []),Uaa 7,Uaa 8] []),[(.ret,qS [Uaa 4] []),(.exit 0,(qS [sP 0 ej,(1,.fn 91 []),Uaa 7,Uaa 8,Xaa 9] []))]⟩]⟩
def kR:Ctr:=⟨138,138,[shU ej,.fn 91 []],[],[⟨Uac,[.one],[]⟩],ap1 gj⟩
theorem qv:Lk 3 kR:=ls qy (aC xn aN)
def gQ(a0:LDCn):Option (Bool×Unit):=
(gj a0).bind λ(x0,_)=>
some ((decide (x0>=0)),())
def oG:X.Cfg:=⟨E0,[kR],[],[]⟩
def jB:Ctr:=⟨90,139,[shU ej,.fn 91 []],[],[⟨zab,[.one],[]⟩],ap1 gQ⟩
theorem oE:Lk 4 jB:=ls oG (aC qv aN)
def f7(a0:LDCn) (a1:Int):Option (Bool×Unit):=
let x0:=dQ a0.length;
bif decide (x0<=a1) then ((gQ a0).bind λ(x1,_)=>
some ((!x1),())) else
some (false,())
def Aw:X.Cfg:=⟨E0,[jB],[],[]⟩
def lW:Ctr:=⟨36,140,uL [ej,I64],[],[⟨zab,[.one],[]⟩],ap2 f7⟩
theorem oF:Lk 5 lW:=ls Aw (aC oE aN)
def gc(a0:Int) (a1:Int) (a2:Int) (a3:Int) (a4:Int) (a5:Int) (a6:Int) (a7:LDCn):Option (Bool×Unit):=
(i7 a0 a1 a2 a3 a4 a5 a6 a7).bind λ(x0,x1,x2,x3,x4,x5,x6,x7,_)=>
(pQ x0 x1 x2 x3 x4 x5 x6 x7).bind λ(x8,_)=>
bif (!x8) then (some (true,())) else
let x9:=dQ a7.length;
bif (x9 != 8) then (some (true,())) else
(f7 a7 8).bind λ(ac,_)=>
some ((!ac),())
def sW:X.Cfg:=⟨E0,[nB,uu,lW],[],[]⟩
def nh:Ctr:=⟨88,141,[.agg yah],[],[⟨zab,[.one],[]⟩],ap8 gc⟩
theorem sT:Lk 6 nh:=ls sW (aC rZ (aC Bo (aC oF aN)))
def fh:T0m->Option (T0m⊕((Int×Unit)⊕T0F)):=λ(v0,v1,v2,_)=>
bif decide (v2 < v1) then ((ee v2).bind λx0=>
(dO v0 x0).bind λx1=>
(gc x1.1 x1.2.1 x1.2.2.1 x1.2.2.2.1 x1.2.2.2.2.1 x1.2.2.2.2.2.1 x1.2.2.2.2.2.2.1 x1.2.2.2.2.2.2.2).bind λ(x2,_)=>
bif x2 then (some (.inr (.inl (v2,())))) else
let x3:=w64 (v2+1);
some (.inl (v0,v1,x3,()))) else
some (.inr (.inr (v0,v1,v2,false,())))
def iO(a0:LDTs):Option (Int×Unit):=
let x0:=dQ a0.length;
(match dW fh NN (a0,x0,0,()) with
| none=>none
| some (.inl (x1,_))=>
some (x1,())
| some (.inr (x1,_))=>
some ((-1),()))
def rp:X.Cfg:=⟨E0,[nh],[],[⟨3,0,(qS [sP 0 (yaa jP),(1,.fn 88 []),Uaa 7,Uaa 8] []),[(.ret,qS [Uaa 4] []),(.exit 0,(qS [sP 0 (yaa jP),(1,.fn 88 []),Uaa 7,Uaa 8,Xaa 9] []))]⟩]⟩
def lU:Ctr:=⟨133,142,[shU (yaa jP),.fn 88 []],[],[⟨Uac,[.one],[]⟩],ap1 iO⟩
theorem ra:Lk 7 lU:=ls rp (aC sT aN)
def gY(a0:LDTs):Option (Bool×Unit):=
(iO a0).bind λ(x0,_)=>
some ((decide (x0>=0)),())
def o4:X.Cfg:=⟨E0,[lU],[],[]⟩
def jU:Ctr:=⟨87,143,[shU (yaa jP),.fn 88 []],[],[⟨zab,[.one],[]⟩],ap1 gY⟩
theorem oU:Lk 8 jU:=ls o4 (aC ra aN)
def iU(a0:LDTs):Option (Bool×Unit):=
let x0:=dQ a0.length;
bif (x0==4) then ((gY a0).bind λ(x1,_)=>
some ((!x1),())) else
some (false,())
def uW:X.Cfg:=⟨E0,[jU],[],[]⟩
def oO:Ctr:=⟨35,144,uL [(yaa jP)],[],[⟨zab,[.one],[]⟩],ap1 iU⟩
theorem uU:Lk 9 oO:=ls uW (aC oU aN)
def Bl:T0g->Option (T0g⊕T0t):=λ(v0,v1,v2,_)=>
bif decide (v0>=0) then (let x0:Int:=(w64 (8*v0));
(ee x0).bind λx1=>
let x2:Int:=(shR .shr .i64 v1 x1);
let x3:=wk .u8 x2;
bif (d9 1 v2.length (List.length [x3])) then let x4:List (Int):=(List.append v2 [x3]);
let x5:=w64 (v0 - 1);
some (.inl (x5,v1,x4,())) else none) else
some (.inr (v0,v1,false,v2,()))
def qZ(a0:Int) (a1:Int) (a2:List (Int)):Option (LI×Unit):=
let x0:=w64 (a0 - 1);
(dW Bl NN (x0,a1,a2,())).bind λ(x1,x2,x3,x4,_)=>
some (x4,())
def Ij:X.Cfg:=⟨E0,[],[],[(lx 3 0 [Zaa 0 3,Uaa 1,Uaa 2] [(3,zah)] 10)]⟩
def u5:Ctr:=⟨38,145,[.pk ⟨3,0,[]⟩ [0,0],shU I64,shU I64],[(3,zah)],[⟨zah,[.one],[(3,[])]⟩],ap3 qZ⟩
theorem As:Lk 1 u5:=ls Ij aN
def xM(a0:Int) (a1:Int) (a2:Int) (a3:Int) (a4:List (Int)):Option (LI×Unit):=
bif (a0==1) then (let x0:Int:=(w64 (a2+1));
let x1:=wk .u8 x0;
let x2:List (Int):=[a0,x1];
bif (d9 1 a4.length x2.length) then let x3:List (Int):=(List.append a4 x2);
(qZ 2 a3 x3).bind λ(x4,_)=>
some (x4,()) else none) else
let x0:List (Int):=[a0,0];
bif (d9 1 a4.length x0.length) then let x1:List (Int):=(List.append a4 x0);
let x2:=wk .i64 a1;
(qZ 2 x2 x1).bind λ(x3,_)=>
some (x3,()) else none
def GG:X.Cfg:=⟨E0,[u5],[],[]⟩
def yJ:Ctr:=⟨93,146,[.pk ⟨3,0,[]⟩ [0,0],.agg zaf],[(3,zah)],[⟨zah,[.one],[(3,[])]⟩],ap5 xM⟩
theorem FU:Lk 2 yJ:=ls GG (aC As aN)
def zO:LDCn×T0g->Option ((LDCn×T0g)⊕(LDCn×T0t)):=λ(v0,v1,v2,v3,_)=>
bif decide (v2 < v1) then ((ee v2).bind λx0=>
(dO v0 x0).bind λx1=>
(xM x1.1 x1.2.1 x1.2.2.1 x1.2.2.2 v3).bind λ(x2,_)=>
let x3:=w64 (v2+1);
some (.inl (v0,v1,x3,x2,()))) else
some (.inr (v0,v1,v2,false,v3,()))
def py(a0:LDCn) (a1:List (Int)):Option (LI×Unit):=
let x0:=dQ a0.length;
let x1:=wk .u8 x0;
bif (d9 1 a1.length (List.length [x1])) then let x2:List (Int):=(List.append a1 [x1]);
let x3:=dQ a0.length;
(dW zO NN (a0,x3,0,x2,())).bind λ(x4,x5,x6,x7,x8,_)=>
some (x8,()) else none
def GF:X.Cfg:=⟨E0,[yJ],[],[(lx 4 0 [Zaa 0 3,sP 13 ej,Uaa 14,Uaa 15] [(3,zah)] 16)]⟩
def yI:Ctr:=⟨37,147,[.pk ⟨3,0,[]⟩ [0,0],shU ej],[(3,zah)],[⟨zah,[.one],[(3,[])]⟩],ap2 py⟩
theorem FT:Lk 3 yI:=ls GF (aC FU aN)
def Bm:LLCn×Int×Int×LLCn×LDTs×LI×Unit->Option ((LLCn×Int×Int×LLCn×LDTs×LI×Unit)⊕((Int×Unit×Unit)⊕(LLCn×Int×Int×Bool×LLCn×LDTs×LI×Unit))):=λ(v0,v1,v2,v3,v4,v5,_)=>
bif decide (v2 < v1) then ((ee v2).bind λx0=>
(dO v0 x0).bind λx1=>
let x2:=dQ x1.length;
bif (x2==0) then (some (.inr (.inl (1,(),())))) else
(f7 x1 32).bind λ(x3,_)=>
bif (!x3) then (some (.inr (.inl (1,(),())))) else
(py x1 v5).bind λ(x4,_)=>
let x5:=w64 (v2+1);
some (.inl (v0,v1,x5,v3,v4,x4,()))) else
some (.inr (.inr (v0,v1,v2,false,v3,v4,v5,())))
def wR:T0J->Option (T0J⊕((Bool×Unit)⊕(LI×T0G))):=λ(v0,v1,v2,v3,_)=>
bif decide (v3 < v2) then ((ee v3).bind λx0=>
(dO v1 x0).bind λx1=>
bif decide (x1 < 1) then (some (.inr (.inl (false,())))) else
bif decide (x1 > 32) then (some (.inr (.inl (false,())))) else
let x2:=w64 (v3+1);
some (.inl (v0,v1,v2,x2,()))) else
some (.inr (.inr (v0,v1,v2,v3,false,())))
def mA(a0:List (Int)):Option (Bool×Unit):=
let x0:=dQ a0.length;
(match dW wR NN (a0,a0,x0,0,()) with
| none=>none
| some (.inl (x1,_))=>
some (x1,())
| some (.inr (x1,_))=>
let x6:=dQ x1.length;
bif decide (x6>=1) then (let x7:Int:=(dQ x1.length);
some ((decide (x7<=4)),())) else
some (false,()))
def BH:X.Cfg:=⟨E0,[],[],[⟨3,0,qS [sP 0 RI,sP 5 RI,Uaa 6,Uaa 7] [],[(.ret,qS [Xaa 2] []),(.exit 0,qS [sP 0 RI,sP 5 RI,Uaa 6,Uaa 7,Xaa 8] [])]⟩]⟩
def pZ:Ctr:=⟨95,152,uL [RI],[],[⟨zab,[.one],[]⟩],ap1 mA⟩
theorem uo:Lk 1 pZ:=ls BH aN
def pS(a0:Int):Option (T0q):=
(bif (a0==1) then (some (a0,true,false,false,false,false,())) else
bif (a0==15) then (some (a0,true,false,false,false,false,())) else
bif (a0==19) then (some (a0,true,false,false,false,false,())) else
bif (a0==20) then (some (a0,true,false,false,false,false,())) else
some (a0,(a0==21),false,false,false,false,()):Option (Int×Bool×T0q)).bind λ(x0,x1,_)=>
bif x1 then (some (true,false,false,true,())) else
bif (x0==2) then (some (true,true,false,false,())) else
bif (x0==16) then (some (true,true,false,true,())) else
bif (x0==17) then (some (true,true,false,true,())) else
bif (x0==18) then (some (false,false,false,true,())) else
bif (x0==23) then (some (false,false,false,true,())) else
bif (x0==22) then (some (true,false,false,false,())) else
bif (x0==0) then (some (false,false,false,false,())) else
bif (x0==24) then (some (false,false,false,false,())) else
some (true,true,true,false,())
def BX:X.Cfg:=⟨E0,[],[],[⟨3,0,qE,[(.normal,qS [zaa 2,Uaa 3,Xaa 4] [(6,yag)])]⟩]⟩
def uG:Ctr:=⟨139,153,Uac,[],[⟨yag,[.agg 4],[]⟩],ap1 pS⟩
theorem BA:Lk 1 uG:=ls BX aN
def gR(a0:Bool) (a1:Int) (a2:Int):Option (Bool×Unit):=
bif (a1==0) then (some (true,())) else
bif a0 then (bif decide (a1 > 0) then (some ((decide (a1<=a2)),())) else
some (false,())) else
some (false,())
def AI:X.Cfg:=⟨E0,[],[],[]⟩
def tG:Ctr:=⟨140,154,uL [.bool,I64,I64],[],[⟨zab,[.one],[]⟩],ap3 gR⟩
theorem Ar:Lk 1 tG:=ls AI aN
def nR(a0:Int):Option (Bool×Unit):=
bif (a0==18) then (some (true,())) else
bif (a0==19) then (some (true,())) else
bif (a0==20) then (some (true,())) else
some ((a0==21),())
def Eu:X.Cfg:=⟨E0,[],[],[]⟩
def rJ:Ctr:=⟨97,155,Uac,[],[⟨zab,[.one],[]⟩],ap1 nR⟩
theorem vI:Lk 1 rJ:=ls Eu aN
def px(a0:Int):Option (Int×Unit):=
(nR a0).bind λ(x0,_)=>
bif x0 then (some (63,())) else
bif (a0==15) then (some (3,())) else
bif (a0==23) then (some (15,())) else
some (65535,())
def GE:X.Cfg:=⟨E0,[rJ],[],[]⟩
def yH:Ctr:=⟨141,156,Uac,[],[⟨Uac,[.one],[]⟩],ap1 px⟩
theorem FS:Lk 2 yH:=ls GE (aC vI aN)
def lH(a0:Int) (a1:Int) (a2:Int) (a3:Int) (a4:Int):Option (Bool×Unit):=
bif decide (a0 < 0) then (some (false,())) else
bif decide (a0 > 24) then (some (false,())) else
(pS a0).bind λ(x0,x1,x2,x3,_)=>
(gR x0 a1 7).bind λ(x4,_)=>
bif x4 then ((gR x1 a2 7).bind λ(x5,_)=>
bif x5 then ((gR x2 a3 7).bind λ(x6,_)=>
bif x6 then ((px a0).bind λ(x7,_)=>
(gR x3 a4 x7).bind λ(x8,_)=>
some (x8,())) else
some (false,())) else
some (false,())) else
some (false,())
def Et:X.Cfg:=⟨E0,[uG,tG,yH],[],[]⟩
def wD:Ctr:=⟨96,157,[.agg Uad],[],[⟨zab,[.one],[]⟩],ap5 lH⟩
theorem DJ:Lk 3 wD:=ls Et (aC BA (aC Ar (aC FS aN)))
def kE:T1s->Option (T1s⊕((Int×Unit)⊕T1G)):=λ(v0,v1,v2,v3,v4,v5,_)=>
bif decide (v2 < v1) then ((ee v2).bind λx0=>
(dO v0 x0).bind λx1=>
let x2:=dQ x1.length;
(ee v2).bind λx3=>
(dO v4 x3).bind λx4=>
bif decide (x2 > x4) then (some (.inr (.inl (1,())))) else
let x5:=w64 (v2+1);
some (.inl (v0,v1,x5,v3,v4,v5,()))) else
some (.inr (.inr (v0,v1,v2,false,v3,v4,v5,())))
def kD:T1D->Option (T1D⊕((Int×Unit)⊕T1S)):=λ(v0,v1,v2,v3,v4,v5,v6,_)=>
bif decide (v3 < v2) then ((match ((ee v3).bind λx0=>
(dO v1 x0).bind λx1=>
(lH x1.1 x1.2.1 x1.2.2.1 x1.2.2.2.1 x1.2.2.2.2).bind λ(x2,_)=>
bif (!x2) then (some (.inl (5,()))) else
((nR x1.1).bind λ(x3,_)=>
bif x3 then (let x4:Int:=(dQ v4.length);
bif decide (x1.2.2.2.2>=x4) then (some (v0,v1,v2,v3,true,v4,v5,v6,())) else
bif (x1.1==15) then (let x5:Int:=(dQ v5.length);
some (v0,v1,v2,v3,(decide (x1.2.2.2.2>=x5)),v4,v5,v6,())) else
some (v0,v1,v2,v3,false,v4,v5,v6,())) else
bif (x1.1==15) then (let x4:Int:=(dQ v5.length);
some (v0,v1,v2,v3,(decide (x1.2.2.2.2>=x4)),v4,v5,v6,())) else
some (v0,v1,v2,v3,false,v4,v5,v6,()):Option (T1S)).bind λ(x3,x4,x5,x6,x7,x8)=>
bif x7 then (some (.inr (6,x4,x5,x6,x8))) else
some (.inr (x3,x4,x5,x6,x8)):Option ((Int×Unit)⊕T1D)) with
| none=>none
| some (.inl (x0,_))=>
some (.inr (.inl (x0,())))
| some (.inr (x0,x1,x2,x3,x4,x5,x6,_))=>
let x7:=w64 (x3+1);
some (.inl (x0,x1,x2,x7,x4,x5,x6,())))) else
some (.inr (.inr (v0,v1,v2,v3,false,v4,v5,v6,())))
def lJ(a0:LDIn) (a1:List (Int)) (a2:List LI):Option (Int×Unit):=
(mA a1).bind λ(x0,_)=>
bif (!x0) then (some (1,())) else
let x1:=dQ a2.length;
let x2:=dQ a1.length;
bif (x1 != x2) then (some (1,())) else
let x3:=dQ a2.length;
(match dW kE NN (a2,x3,0,a0,a1,a2,()) with
| none=>none
| some (.inl (x4,_))=>
some (x4,())
| some (.inr (x4,x5,x6,x7,x8,x9))=>
let ae:=dQ x8.length;
bif (ae==0) then (some (3,())) else
let af:=dQ x8.length;
bif decide (af > 64) then (some (3,())) else
let ag:=dQ x8.length;
(match dW kD NN (0,x8,ag,0,x8,x9) with
| none=>none
| some (.inl (ah,_))=>
some (ah,())
| some (.inr (ah,_))=>
some (ah,())))
def Ew:X.Cfg:=⟨E0,[pZ,wD,rJ],[],[⟨6,0,qS [zaa 1,sP 22 (yaa RW),Uaa 23,Uaa 24] [(4,uab)],[(.ret,qS [Uaa 2] []),(.exit 0,qS [zaa 1,sP 22 (yaa RW),Uaa 23,Uaa 24,Xaa 25] [(4,uab)])]⟩,⟨27,1,qE,[(.normal,qS [zaa 1,Uaa 5,sP 49 ff,Uaa 50,Uaa 51,Xaa 81] [(4,uab)])]⟩,⟨22,2,qE,[(.ret,qS [Uaa 2] []),(.normal,qS [zaa 1,Uaa 5,sP 49 ff,Uaa 50,Uaa 51] [(4,uab)])]⟩,⟨19,3,qS [zaa 1,Uaa 5,sP 49 ff,Uaa 50,Uaa 51] [(4,uab)],[(.ret,qS [Uaa 2] []),(.exit 2,qS [zaa 1,Uaa 5,sP 49 ff,Uaa 50,Uaa 51,Xaa 52] [(4,uab)])]⟩]⟩
def wF:Ctr:=⟨44,158,[.agg uab],[],[⟨Uac,[.one],[]⟩],ap3 lJ⟩
theorem DL:Lk 4 wF:=ls Ew (aC uo (aC DJ (aC vI aN)))
def fU:T1W->Option (T1W⊕((Bool×Unit)⊕T2d)):=λ(v0,v1,v2,v3,v4,v5)=>
bif decide (v2 < v1) then ((ee v2).bind λx0=>
(dO v0 x0).bind λx1=>
let x2:=dQ x1.length;
(ee v2).bind λx3=>
(dO v4 x3).bind λx4=>
bif (x2 != x4) then (some (.inr (.inl (false,())))) else
(ee v2).bind λx5=>
(dO v4 x5).bind λx6=>
(f7 x1 x6).bind λ(x7,_)=>
bif (!x7) then (some (.inr (.inl (false,())))) else
let x8:=w64 (v2+1);
some (.inl (v0,v1,x8,v3,v4,v5))) else
some (.inr (.inr (v0,v1,v2,false,v3,v4,v5)))
def iB(a0:LDIn) (a1:List (Int)) (a2:List LI) (a3:List LDCn) (a4:LDTs):Option (Bool×Unit):=
(lJ a0 a1 a2).bind λ(x0,_)=>
bif (x0 != 0) then (some (false,())) else
let x1:=dQ a3.length;
let x2:=dQ a1.length;
bif (x1 != x2) then (some (false,())) else
let x3:=dQ a3.length;
(match dW fU NN (a3,x3,0,a0,a1,a2,a3,a4,()) with
| none=>none
| some (.inl (x4,_))=>
some (x4,())
| some (.inr (x4,x5,x6,x7,x8,x9,ac,ae,af,_))=>
(iU af).bind λ(ag,_)=>
some (ag,()))
def xy:X.Cfg:=⟨E0,[wF,lW,oO],[],[⟨6,0,qS [zaa 2,zaa 3,sP 20 (yaa ej),Uaa 21,Uaa 22] [(6,uab),(8,zac)],[(.ret,qS [Xaa 4] []),(.exit 0,qS [zaa 2,zaa 3,sP 20 (yaa ej),Uaa 21,Uaa 22,Xaa 23] [(6,uab),(8,zac)])]⟩]⟩
def qG:Ctr:=⟨14,159,[.agg uab,.agg zac],[],[⟨zab,[.one],[]⟩],ap5 iB⟩
theorem xp:Lk 10 qG:=ls xy (aC DL (aC oF (aC uU aN)))
def lI(a0:Int) (a1:Int) (a2:Int) (a3:Int):Option (Bool×Unit):=
bif (a0==1) then (some ((a2==(-1)),())) else
some (false,())
def fJ:T0k->Option (T0k⊕((Int×Unit)⊕T0C)):=λ(v0,v1,v2,_)=>
bif decide (v2 < v1) then ((ee v2).bind λx0=>
(dO v0 x0).bind λx1=>
(lI x1.1 x1.2.1 x1.2.2.1 x1.2.2.2).bind λ(x2,_)=>
bif x2 then (some (.inr (.inl (v2,())))) else
let x3:=w64 (v2+1);
some (.inl (v0,v1,x3,()))) else
some (.inr (.inr (v0,v1,v2,false,())))
def jR(a0:LDCn):Option (Int×Unit):=
let x0:=dQ a0.length;
(match dW fJ NN (a0,x0,0,()) with
| none=>none
| some (.inl (x1,_))=>
some (x1,())
| some (.inr (x1,_))=>
some ((-1),()))
def fK(a0:LDCn):Option (Bool×Unit):=
(jR a0).bind λ(x0,_)=>
some ((decide (x0>=0)),())
def m9(a0:LDCn):Option (Bool×Unit):=
(fK a0).bind λ(x0,_)=>
some (x0,())
def fI:LLCn×T02->Option ((LLCn×T02)⊕((Int×Unit)⊕(LLCn×T0d))):=λ(v0,v1,v2,_)=>
bif decide (v2 < v1) then ((ee v2).bind λx0=>
(dO v0 x0).bind λx1=>
(m9 x1).bind λ(x2,_)=>
bif x2 then (some (.inr (.inl (v2,())))) else
let x3:=w64 (v2+1);
some (.inl (v0,v1,x3,()))) else
some (.inr (.inr (v0,v1,v2,false,())))
def jQ(a0:List LDCn):Option (Int×Unit):=
let x0:=dQ a0.length;
(match dW fI NN (a0,x0,0,()) with
| none=>none
| some (.inl (x1,_))=>
some (x1,())
| some (.inr (x1,_))=>
some ((-1),()))
def iY(a0:List LDCn):Option (Bool×Unit):=
(jQ a0).bind λ(x0,_)=>
some ((decide (x0>=0)),())
def m8(a0:Int) (a1:Int) (a2:Int) (a3:Int) (a4:Int) (a5:Int) (a6:Int) (a7:LDCn):Option (Bool×Unit):=
(fK a7).bind λ(x0,_)=>
some (x0,())
def fP:T0m->Option (T0m⊕((Int×Unit)⊕T0F)):=λ(v0,v1,v2,_)=>
bif decide (v2 < v1) then ((ee v2).bind λx0=>
(dO v0 x0).bind λx1=>
(m8 x1.1 x1.2.1 x1.2.2.1 x1.2.2.2.1 x1.2.2.2.2.1 x1.2.2.2.2.2.1 x1.2.2.2.2.2.2.1 x1.2.2.2.2.2.2.2).bind λ(x2,_)=>
bif x2 then (some (.inr (.inl (v2,())))) else
let x3:=w64 (v2+1);
some (.inl (v0,v1,x3,()))) else
some (.inr (.inr (v0,v1,v2,false,())))
def j6(a0:LDTs):Option (Int×Unit):=
let x0:=dQ a0.length;
(match dW fP NN (a0,x0,0,()) with
| none=>none
| some (.inl (x1,_))=>
some (x1,())
| some (.inr (x1,_))=>
some ((-1),()))
def jg(a0:LDTs):Option (Bool×Unit):=
(j6 a0).bind λ(x0,_)=>
some ((decide (x0>=0)),())
def oy(a0:List LDCn) (a1:LDTs):Option (Bool×Unit):=
(iY a0).bind λ(x0,_)=>
bif x0 then (some (true,())) else
(jg a1).bind λ(x1,_)=>
some (x1,())
def rV(a0:List LDCn) (a1:LDTs):Option (Bool×Unit):=
(oy a0 a1).bind λ(x0,_)=>
some (x0,())
def f6(a0:Int) (a1:Int) (a2:Int):Option (Bool×Unit):=
bif decide (a0>=a1) then (some ((decide (a0<=a2)),())) else
some (false,())
def xt:X.Cfg:=⟨E0,[],[],[]⟩
def qC:Ctr:=⟨145,180,uak,[],[⟨zab,[.one],[]⟩],ap3 f6⟩
theorem xm:Lk 1 qC:=ls xt aN
def sq(a0:Int) (a1:Int) (a2:Int) (a3:Int) (a4:Int) (a5:Int) (a6:LDCn) (a7:LDCn):Option (Bool×Unit):=
(f6 a0 0 3).bind λ(x0,_)=>
bif x0 then ((f6 a1 0 3).bind λ(x1,_)=>
bif x1 then ((f6 a2 0 6).bind λ(x2,_)=>
bif x2 then ((f6 a3 0 1099511627776).bind λ(x3,_)=>
bif x3 then ((f6 a4 0 255).bind λ(x4,_)=>
bif x4 then ((f6 a5 0 15).bind λ(x5,_)=>
bif x5 then ((f7 a6 3).bind λ(x6,_)=>
bif x6 then ((f7 a7 16).bind λ(x7,_)=>
some (x7,())) else
some (false,())) else
some (false,())) else
some (false,())) else
some (false,())) else
some (false,())) else
some (false,())) else
some (false,())
def Av:X.Cfg:=⟨E0,[qC,lW],[],[]⟩
def s6:Ctr:=⟨105,181,[.agg Zac],[],[⟨zab,[.one],[]⟩],ap8 sq⟩
theorem Af:Lk 6 s6:=ls Av (aC xm (aC oF aN))
def mn(a0:Int) (a1:Int) (a2:Int) (a3:Int) (a4:Int) (a5:Int) (a6:LDCn) (a7:LDCn):Option (T07):=
(sq a0 a1 a2 a3 a4 a5 a6 a7).bind λ(x0,_)=>
bif (!x0) then (some ([],1,())) else
let x1:=wk .u8 a0;
let x2:=wk .u8 a1;
let x3:=wk .u8 a2;
let x4:List (Int):=[x1,x2,x3];
(qZ 6 a3 x4).bind λ(x5,_)=>
let x6:=wk .u8 a4;
let x7:=wk .u8 a5;
let x8:List (Int):=[x6,x7];
bif (d9 1 x5.length x8.length) then let x9:List (Int):=(List.append x5 x8);
(py a6 x9).bind λ(ac,_)=>
(py a7 ac).bind λ(ae,_)=>
some (ae,0,()) else none
def xz:X.Cfg:=⟨E0,[s6,u5,yI],[],[]⟩
def mw:Ctr:=⟨55,182,[.agg Zac],[],[⟨uL [(uaa CB),I64],[.one,.one],[]⟩],ap8 mn⟩
theorem qx:Lk 7 mw:=ls xz (aC Af (aC As (aC FT aN)))
def mb(a0:Int) (a1:List (Int)) (a2:Bool):Option (LI×T06):=
bif a2 then (some ([],a1,true,())) else
let x0:=dQ a1.length;
bif decide (a0 > x0) then (some ([],a1,true,())) else
(ee a0).bind λx1=>
bif (ir 0 x1 a1.length) then let x2:List (Int):=(kU a1 0 (Nat.sub x1 0));
(ee a0).bind λx3=>
bif (ir x3 a1.length a1.length) then let x4:List (Int):=(kU a1 x3 (Nat.sub a1.length x3));
some (x2,x4,a2,()) else none else none
def sf:X.Cfg:=⟨E0,[],[],[]⟩
def me:Ctr:=⟨146,183,[.ptr ⟨2,0,[]⟩ [0],shU I64],[(2,Uag)],[⟨uL [(yaa CB)],[.one],[(2,Uag)]⟩],ap3 mb⟩
theorem sc:Lk 1 me:=ls sf aN
def oz:Int×LI×T0w->Option ((Int×LI×T0w)⊕(Int×LI×Int×Int×Bool×T06)):=λ(v0,v1,v2,v3,v4)=>
bif decide (v3 < v2) then ((ee v3).bind λx0=>
(dO v1 x0).bind λx1=>
let x2:Int:=(shR .shl .i64 v0 8);
let x3:=wk .i64 x1;
let x4:Int:=(arR .or .i64 x2 x3);
let x5:=w64 (v3+1);
some (.inl (x4,v1,v2,x5,v4))) else
some (.inr (v0,v1,v2,v3,false,v4))
def ew(a0:Int) (a1:List (Int)) (a2:Bool):Option (T0h):=
(mb a0 a1 a2).bind λ(x0,x1)=>
let x3:=dQ x0.length;
(dW oz NN (0,x0,x3,0,x1)).bind λ(x4,x5,x6,x7,x8,x9)=>
some (x4,x9)
def qA:X.Cfg:=⟨E0,[me],[],[(lx 4 0 [zaa 0,Uaa 5,sP 10 (yaa CB),Uaa 11,Uaa 12] [(2,Uag)] 13)]⟩
def gn:Ctr:=⟨106,184,[.ptr ⟨2,0,[]⟩ [0],shU I64],[(2,Uag)],[⟨Uac,[.one],[(2,Uag)]⟩],ap3 ew⟩
theorem iH:Lk 2 gn:=ls qA (aC sc aN)
def mc(a0:List (Int)) (a1:Bool):Option (Int×Int×T0w):=
(ew 1 a0 a1).bind λ(x0,x1,x2,_)=>
let x3:=wk .u8 x0;
(ew 1 x1 x2).bind λ(x4,x5,x6,_)=>
(ew 2 x5 x6).bind λ(x7,x8)=>
bif (x3==1) then (let ac:Int:=(w64 (x4 - 1));
some (x3,0,ac,x7,x8)) else
let ac:=wk .u16 x7;
some (x3,ac,x4,0,x8)
def si:X.Cfg:=⟨E0,[gn],[],[]⟩
def mg:Ctr:=⟨147,185,[.ptr ⟨2,0,[]⟩ [0]],[(2,Uag)],[⟨zaf,[.agg 4],[(2,Uag)]⟩],ap2 mc⟩
theorem se:Lk 3 mg:=ls si (aC iH aN)
def pU:Int×LI×Bool×LDCn×Unit->Option ((Int×LI×Bool×LDCn×Unit)⊕(Int×Bool×LI×Bool×LDCn×Unit)):=λ(v0,v1,v2,v3,_)=>
bif decide (v0 > 0) then (bif (!v2) then ((mc v1 v2).bind λ(x0,x1,x2,x3,x4,x5,_)=>
let x6:LDCn:=[(x0,(x1,(x2,x3)))];
bif (d9 24 v3.length x6.length) then let x7:LDCn:=(List.append v3 x6);
let x8:=w64 (v0 - 1);
some (.inl (x8,x4,x5,x7,())) else none) else
some (.inr (v0,false,v1,v2,v3,()))) else
some (.inr (v0,false,v1,v2,v3,()))
def jd(a0:List (Int)) (a1:Bool):Option (LDCn×T06):=
(ew 1 a0 a1).bind λ(x0,x1,x2,_)=>
(dW pU NN (x0,x1,x2,[],())).bind λ(x3,x4,x5,x6,x7,_)=>
some (x7,x5,x6,())
def sg:X.Cfg:=⟨E0,[gn,mg],[],[(lx 4 0 [zaa 0,Zaa 3 9,Uaa 4] [(2,Uag),(9,Xag)] 15)]⟩
def mf:Ctr:=⟨107,186,[.ptr ⟨2,0,[]⟩ [0]],[(2,Uag)],[⟨Xag,[.one],[(2,Uag)]⟩],ap2 jd⟩
theorem sd:Lk 4 mf:=ls sg (aC iH (aC se aN))
def vi(a0:List (Int)) (a1:List (Int)):Option (Bool×Unit):=
let x0:ByteArray:=(Hd a0);
let x1:ByteArray:=(Hd a1);
some ((R8 x0 x1),())
def Ev:X.Cfg:=⟨E0,[],[],[]⟩
def wE:Ctr:=⟨108,187,uL [(yaa CB),(yaa CB)],[],[⟨zab,[.one],[]⟩],ap2 vi⟩
theorem DK:Lk 1 wE:=ls Ev aN
def rW(a0:List (Int)):Option (T21):=
(ew 1 a0 false).bind λ(x0,x1,x2,_)=>
(ew 1 x1 x2).bind λ(x3,x4,x5,_)=>
(ew 1 x4 x5).bind λ(x6,x7,x8,_)=>
(ew 6 x7 x8).bind λ(x9,ac,ae,_)=>
(ew 1 ac ae).bind λ(af,ag,ah,_)=>
(ew 1 ag ah).bind λ(ai,aj,ak,_)=>
(jd aj ak).bind λ(am,an,ap,_)=>
(jd an ap).bind λ(aq,av,ax,_)=>
bif ax then (some (0,0,0,0,0,0,[],[],4,())) else
(mn x0 x3 x6 x9 af ai am aq).bind λ(ay,az,_)=>
(let aA:=dQ av.length;
bif decide (aA > 0) then (some (true,0,0,0,0,0,0,(),(),x0,x3,x6,x9,af,ai,am,aq,())) else
bif (az != 0) then (some (true,0,0,0,0,0,0,(),(),x0,x3,x6,x9,af,ai,am,aq,())) else
(vi ay a0).bind λ(aB,_)=>
some ((!aB),0,0,0,0,0,0,(),(),x0,x3,x6,x9,af,ai,am,aq,()):Option (Bool×Int×Int×Int×Int×Int×Int×Unit×Unit×T1L)).bind λ(aA,aB,aD,aE,aF,aG,aH,aI,aJ,aK,aL,aM,aO,aP,aQ,aR,aS,_)=>
bif aA then (some (0,0,0,0,0,0,[],[],5,())) else
some (aK,aL,aM,aO,aP,aQ,aR,aS,0,())
def za:X.Cfg:=⟨E0,[gn,mf,mw,wE],[],[⟨10,0,qE,[(.normal,qS [zaa 2,zaa 5,Xaa 55] [(6,uag),(12,Zac)])]⟩]⟩
def r9:Ctr:=⟨56,188,uL [(yaa CB)],[],[⟨uL [I64,I64,I64,I64,I64,I64,ej,ej,I64],[.agg 8,.one],[]⟩],ap1 rW⟩
theorem yX:Lk 8 r9:=ls za (aC iH (aC sd (aC qx (aC DK aN))))
def xL(a0:Int) (a1:Int) (a2:Int) (a3:Int) (a4:Int) (a5:Int) (a6:LDCn) (a7:LDCn) (a8:Int) (a9:Int) (a10:Int) (a11:Int) (a12:Int) (a13:Int) (a14:LDCn) (a15:LDCn):Option (Bool×Unit):=
bif (a0==a8) then (bif (a1==a9) then (bif (a2==a10) then (bif (a3==a11) then (bif (a4==a12) then (bif (a5==a13) then ((ml a6 a14).bind λ(x0,_)=>
bif x0 then ((ml a7 a15).bind λ(x1,_)=>
some (x1,())) else
some (false,())) else
some (false,())) else
some (false,())) else
some (false,())) else
some (false,())) else
some (false,())) else
some (false,())
def Gk:X.Cfg:=⟨E0,[qF],[],[]⟩
def yx:Ctr:=⟨57,189,[.agg Zac,.agg Zac],[],[⟨zab,[.one],[]⟩],ap16 xL⟩
theorem FH:Lk 2 yx:=ls Gk (aC xo aN)
def qY:Option (Bool×Unit):=
let x0:LDCn:=[(1,(0,(1,3)))];
(mn 0 1 0 0 0 10 x0 []).bind λ(x1,x2,_)=>
(rW x1).bind λ(x3,x4,x5,x6,x7,x8,x9,ac,ae,_)=>
bif (x2==0) then (bif (ae==0) then (let af:Int:=(dQ x1.length);
bif (af==17) then (bif (ir 11 16 x1.length) then let ag:List (Int):=(kU x1 11 (Nat.sub 16 11));
let ah:ByteArray:=(Hd ag);
bif (R8 ah (bytes [1,1,2,0,3])) then ((xL x3 x4 x5 x6 x7 x8 x9 ac 0 1 0 0 0 10 x0 []).bind λ(ai,_)=>
some (ai,())) else
some (false,()) else none) else
some (false,())) else
some (false,())) else
some (false,())
def Es:X.Cfg:=⟨E0,[mw,r9,yx],[],[]⟩
def wC:Ctr:=⟨19,190,[],[],[⟨zab,[.one],[]⟩],λh=>qY⟩
theorem DI:Lk 9 wC:=ls Es (aC qx (aC yX (aC FH aN)))
def gO:T2o->Option (T2o⊕((Bool×Unit)⊕T2A)):=λ(v0,v1,v2,v3,v4,v5,v6,v7,v8,v9,_)=>
bif decide (v7 < v6) then ((match ((ee v7).bind λx0=>
(dO v8 x0).bind λx1=>
(ee v7).bind λx2=>
(dO v0 x2).bind λx3=>
let x4:=w64 (x1+x3);
bif decide (v2<=x4) then ((ee v7).bind λx5=>
(dO v8 x5).bind λx6=>
(ee v1).bind λx7=>
(dO v0 x7).bind λx8=>
let x9:=w64 (v2+x8);
bif decide (x6<=x9) then (some (.inl (false,()))) else
some (.inr (v0,v1,v2,v3,v4,v5,v6,v7,false,v8,v9,()))) else
some (.inr (v0,v1,v2,v3,v4,v5,v6,v7,false,v8,v9,())):Option ((Bool×Unit)⊕T2A)) with
| none=>none
| some (.inl (x0,_))=>
some (.inr (.inl (x0,())))
| some (.inr (x0,x1,x2,x3,x4,x5,x6,x7,x8,x9,ac,_))=>
let ae:=w64 (x7+1);
some (.inl (x0,x1,x2,x3,x4,x5,x6,ae,x9,ac,())))) else
some (.inr (.inr (v0,v1,v2,v3,v4,v5,v6,v7,false,v8,v9,())))
def gN:T1m->Option (T1m⊕((Bool×Unit)⊕(LI×T1k))):=λ(v0,v1,v2,v3,v4)=>
bif decide (v3 < v2) then ((ee v3).bind λx0=>
(dO v1 x0).bind λx1=>
(bif decide (x1 < 0) then (some (v0,v3,x1,v1,v2,v3,true,v4)) else
bif decide (x1>=512) then (some (v0,v3,x1,v1,v2,v3,true,v4)) else
(ee v3).bind λx2=>
(dO v0 x2).bind λx3=>
let x4:=w64 (x1+x3);
some (v0,v3,x1,v1,v2,v3,(decide (x4 > 512)),v4):Option (T29)).bind λ(x2,x3,x4,x5,x6,x7,x8,x9)=>
bif x8 then (some (.inr (.inl (false,())))) else
(match dW gO NN (x2,x3,x4,x5,x6,x7,x3,0,x9) with
| none=>none
| some (.inl (ae,_))=>
some (.inr (.inl (ae,())))
| some (.inr (ae,af,ag,ah,ai,aj,ak,am,an,ap))=>
let av:=w64 (aj+1);
some (.inl (ae,ah,ai,av,ap)))) else
some (.inr (.inr (v0,v1,v2,v3,false,v4)))
def j9(a0:List (Int)) (a1:Int) (a2:List (Int)):Option (Bool×Unit):=
(mA a2).bind λ(x0,_)=>
bif (!x0) then (some (false,())) else
let x1:=dQ a0.length;
let x2:=dQ a2.length;
bif (x1 != x2) then (some (false,())) else
let x3:=dQ a0.length;
(match dW gN NN (a2,a0,x3,0,a0,a1,()) with
| none=>none
| some (.inl (x4,_))=>
some (x4,())
| some (.inr (x4,_))=>
some (true,()))
def BV:X.Cfg:=⟨E0,[pZ],[],[⟨12,0,qE,[(.normal,qS [sP 1 RI,zaa 2,Uaa 5,Uaa 6,sP 20 RI,Uaa 21,Uaa 22,Xaa 41] [(6,yab)])]⟩,⟨18,1,qE,[(.ret,qS [Xaa 4] []),(.normal,qS [sP 1 RI,zaa 2,Uaa 5,Uaa 6,sP 20 RI,Uaa 21,Uaa 22,Uaa 42,Uaa 43,Xaa 71] [(6,yab)])]⟩,⟨15,2,qS [sP 1 RI,zaa 2,Uaa 5,Uaa 6,sP 20 RI,Uaa 21,Uaa 22,Uaa 42,Uaa 43] [(6,yab)],[(.ret,qS [Xaa 4] []),(.exit 2,qS [sP 1 RI,zaa 2,Uaa 5,Uaa 6,sP 20 RI,Uaa 21,Uaa 22,Uaa 42,Uaa 43,Xaa 44] [(6,yab)])]⟩,⟨6,3,qS [sP 1 RI,zaa 2,sP 20 RI,Uaa 21,Uaa 22] [(6,yab)],[(.ret,qS [Xaa 4] []),(.exit 0,qS [sP 1 RI,zaa 2,sP 20 RI,Uaa 21,Uaa 22,Xaa 23] [(6,yab)])]⟩]⟩
def uE:Ctr:=⟨59,192,[.agg yab,shU RI],[],[⟨zab,[.one],[]⟩],ap3 j9⟩
theorem By:Lk 2 uE:=ls BV (aC uo aN)
def lG(a0:List (Int)) (a1:Int) (a2:Int) (a3:Int) (a4:Int):Option (Bool×Unit):=
bif (a1==0) then (bif (a3==0) then (some ((a4==0),())) else
some (false,())) else
bif (a1==2) then (bif (a3==0) then (some ((a4==0),())) else
some (false,())) else
bif (a1==1) then (bif (a2==0) then ((k9 a0 a3 a4).bind λ(x0,_)=>
some (x0,())) else
some (false,())) else
some (false,())
def AH:X.Cfg:=⟨E0,[oM],[],[]⟩
def oN:Ctr:=⟨61,193,[shU RI,.agg zaf],[],[⟨zab,[.one],[]⟩],ap5 lG⟩
theorem sS:Lk 2 oN:=ls AH (aC sO aN)
def jX(a0:Int) (a1:Int) (a2:Int) (a3:Int) (a4:LDIn) (a5:List (Int)) (a6:List LI):Option (Bool×Unit):=
(lG a5 a0 a1 a2 a3).bind λ(x0,_)=>
some ((!x0),())
def uf:X.Cfg:=⟨E0,[oN],[],[]⟩
def nD:Ctr:=⟨60,194,[.agg zaf,.ip uab],[],[⟨zab,[.one],[]⟩],ap7 jX⟩
theorem ud:Lk 3 nD:=ls uf (aC sS aN)
def eW:LDCn×T0Y->Option ((LDCn×T0Y)⊕((Int×Unit)⊕(LDCn×T1j))):=λ(v0,v1,v2,v3,v4,v5,_)=>
bif decide (v5 < v4) then ((ee v5).bind λx0=>
(dO v0 x0).bind λx1=>
(jX x1.1 x1.2.1 x1.2.2.1 x1.2.2.2 v1 v2 v3).bind λ(x2,_)=>
bif x2 then (some (.inr (.inl (v5,())))) else
let x3:=w64 (v5+1);
some (.inl (v0,v1,v2,v3,v4,x3,()))) else
some (.inr (.inr (v0,v1,v2,v3,v4,v5,false,())))
def gX(a0:LDCn) (a1:LDIn) (a2:List (Int)) (a3:List LI):Option (Int×Unit):=
let x0:=dQ a0.length;
(match dW eW NN (a0,a1,a2,a3,x0,0,()) with
| none=>none
| some (.inl (x1,_))=>
some (x1,())
| some (.inr (x1,_))=>
some ((-1),()))
def oZ:X.Cfg:=⟨E0,[nD],[],[⟨3,0,(qS [sP 0 ej,(1,.fn 60 [.ip uab]),Uaa 7,Uaa 8] []),[(.ret,qS [Uaa 4] []),(.exit 0,(qS [sP 0 ej,(1,.fn 60 [.ip uab]),Uaa 7,Uaa 8,Xaa 9] []))]⟩]⟩
def jT:Ctr:=⟨138,195,[shU ej,.fn 60 [.ip uab]],[],[⟨Uac,[.one],[]⟩],ap4 gX⟩
theorem oT:Lk 4 jT:=ls oZ (aC ud aN)
def fi(a0:LDCn) (a1:LDIn) (a2:List (Int)) (a3:List LI):Option (Bool×Unit):=
(gX a0 a1 a2 a3).bind λ(x0,_)=>
some ((decide (x0>=0)),())
def nz:X.Cfg:=⟨E0,[jT],[],[]⟩
def gt:Ctr:=⟨90,196,[shU ej,.fn 60 [.ip uab]],[],[⟨zab,[.one],[]⟩],ap4 fi⟩
theorem i8:Lk 5 gt:=ls nz (aC oT aN)
def iW(a0:LDCn) (a1:LDIn) (a2:List (Int)) (a3:List LI):Option (Bool×Unit):=
(fi a0 a1 a2 a3).bind λ(x0,_)=>
some (x0,())
def rv:X.Cfg:=⟨E0,[gt],[],[]⟩
def l6:Ctr:=⟨101,197,[shU ej,.ip [.fn 60 [.ip uab]]],[],[⟨zab,[.one],[]⟩],ap4 iW⟩
theorem rm:Lk 6 l6:=ls rv (aC i8 aN)
def eV:LLCn×T0Y->Option ((LLCn×T0Y)⊕((Int×Unit)⊕(LLCn×T1j))):=λ(v0,v1,v2,v3,v4,v5,_)=>
bif decide (v5 < v4) then ((ee v5).bind λx0=>
(dO v0 x0).bind λx1=>
(iW x1 v1 v2 v3).bind λ(x2,_)=>
bif x2 then (some (.inr (.inl (v5,())))) else
let x3:=w64 (v5+1);
some (.inl (v0,v1,v2,v3,v4,x3,()))) else
some (.inr (.inr (v0,v1,v2,v3,v4,v5,false,())))
def gW(a0:List LDCn) (a1:LDIn) (a2:List (Int)) (a3:List LI):Option (Int×Unit):=
let x0:=dQ a0.length;
(match dW eV NN (a0,a1,a2,a3,x0,0,()) with
| none=>none
| some (.inl (x1,_))=>
some (x1,())
| some (.inr (x1,_))=>
some ((-1),()))
def oY:X.Cfg:=⟨E0,[l6],[],[⟨3,0,⟨[sP 0 (yaa ej),(1,.fn 101 [.ip [.fn 60 [.ip uab]]]),Uaa 7,Uaa 8],[],[],([],[])⟩,[(.ret,qS [Uaa 4] []),(.exit 0,⟨[sP 0 (yaa ej),(1,.fn 101 [.ip [.fn 60 [.ip uab]]]),Uaa 7,Uaa 8,Xaa 9],[],[],([],[])⟩)]⟩]⟩
def jS:Ctr:=⟨143,198,[shU (yaa ej),.fn 101 [.ip [.fn 60 [.ip uab]]]],[],[⟨Uac,[.one],[]⟩],ap4 gW⟩
theorem oS:Lk 7 jS:=ls oY (aC rm aN)
def gp(a0:List LDCn) (a1:LDIn) (a2:List (Int)) (a3:List LI):Option (Bool×Unit):=
(gW a0 a1 a2 a3).bind λ(x0,_)=>
some ((decide (x0>=0)),())
def ny:X.Cfg:=⟨E0,[jS],[],[]⟩
def i9:Ctr:=⟨100,199,[shU (yaa ej),.fn 101 [.ip [.fn 60 [.ip uab]]]],[],[⟨zab,[.one],[]⟩],ap4 gp⟩
theorem nw:Lk 8 i9:=ls ny (aC oS aN)
def iV(a0:Int) (a1:Int) (a2:Int) (a3:Int) (a4:Int) (a5:Int) (a6:Int) (a7:LDCn) (a8:LDIn) (a9:List (Int)) (a10:List LI):Option (Bool×Unit):=
(fi a7 a8 a9 a10).bind λ(x0,_)=>
some (x0,())
def ru:X.Cfg:=⟨E0,[gt],[],[]⟩
def lZ:Ctr:=⟨102,200,[.agg yah,.ip [.fn 60 [.ip uab]]],[],[⟨zab,[.one],[]⟩],ap11 iV⟩
theorem rk:Lk 6 lZ:=ls ru (aC i8 aN)
def eZ:LDTs×T0Y->Option ((LDTs×T0Y)⊕((Int×Unit)⊕(LDTs×T1j))):=λ(v0,v1,v2,v3,v4,v5,_)=>
bif decide (v5 < v4) then ((ee v5).bind λx0=>
(dO v0 x0).bind λx1=>
(iV x1.1 x1.2.1 x1.2.2.1 x1.2.2.2.1 x1.2.2.2.2.1 x1.2.2.2.2.2.1 x1.2.2.2.2.2.2.1 x1.2.2.2.2.2.2.2 v1 v2 v3).bind λ(x2,_)=>
bif x2 then (some (.inr (.inl (v5,())))) else
let x3:=w64 (v5+1);
some (.inl (v0,v1,v2,v3,v4,x3,()))) else
some (.inr (.inr (v0,v1,v2,v3,v4,v5,false,())))
def ig(a0:LDTs) (a1:LDIn) (a2:List (Int)) (a3:List LI):Option (Int×Unit):=
let x0:=dQ a0.length;
(match dW eZ NN (a0,a1,a2,a3,x0,0,()) with
| none=>none
| some (.inl (x1,_))=>
some (x1,())
| some (.inr (x1,_))=>
some ((-1),()))
def pY:X.Cfg:=⟨E0,[lZ],[],[⟨3,0,⟨[sP 0 (yaa jP),(1,.fn 102 [.ip [.fn 60 [.ip uab]]]),Uaa 7,Uaa 8],[],[],([],[])⟩,[(.ret,qS [Uaa 4] []),(.exit 0,⟨[sP 0 (yaa jP),(1,.fn 102 [.ip [.fn 60 [.ip uab]]]),Uaa 7,Uaa 8,Xaa 9],[],[],([],[])⟩)]⟩]⟩
def kf:Ctr:=⟨133,201,[shU (yaa jP),.fn 102 [.ip [.fn 60 [.ip uab]]]],[],[⟨Uac,[.one],[]⟩],ap4 ig⟩
theorem pX:Lk 7 kf:=ls pY (aC rk aN)
def gF(a0:LDTs) (a1:LDIn) (a2:List (Int)) (a3:List LI):Option (Bool×Unit):=
(ig a0 a1 a2 a3).bind λ(x0,_)=>
some ((decide (x0>=0)),())
def nY:X.Cfg:=⟨E0,[kf],[],[]⟩
def jj:Ctr:=⟨87,202,[shU (yaa jP),.fn 102 [.ip [.fn 60 [.ip uab]]]],[],[⟨zab,[.one],[]⟩],ap4 gF⟩
theorem nV:Lk 8 jj:=ls nY (aC pX aN)
def gd(a0:List LDCn) (a1:LDTs) (a2:LDIn) (a3:List (Int)) (a4:List LI):Option (Bool×Unit):=
(gp a0 a2 a3 a4).bind λ(x0,_)=>
bif x0 then (some (true,())) else
(gF a1 a2 a3 a4).bind λ(x1,_)=>
some (x1,())
def sX:X.Cfg:=⟨E0,[i9,jj],[],[]⟩
def ni:Ctr:=⟨46,203,[.agg zac,.fn 60 [.ip uab]],[],[⟨zab,[.one],[]⟩],ap5 gd⟩
theorem sU:Lk 9 ni:=ls sX (aC nw (aC nV aN))
def k8(a0:List (Int)):Option (LI×Unit):=
bif (d9 8 0 a0.length) then let x0:List (Int):=(List.append [] a0);
some (x0,()) else none
def vN:X.Cfg:=⟨E0,[],[],[]⟩
def pK:Ctr:=⟨110,204,uL [RI],[],[⟨yae,[.one],[]⟩],ap1 k8⟩
theorem vy:Lk 1 pK:=ls vN aN
def qX(a0:List (Int)) (a1:Int):Option (T07):=
(k8 a0).bind λ(x0,_)=>
some (x0,a1,())
def Er:X.Cfg:=⟨E0,[pK],[],[]⟩
def wB:Ctr:=⟨62,205,[.agg yab],[],[⟨yaj,[.agg 2],[]⟩],ap2 qX⟩
theorem DH:Lk 2 wB:=ls Er (aC vy aN)
def wS:T0f->Option (T0f⊕(Int×Int×Bool×LDLn×Unit)):=λ(v0,v1,v2,_)=>
bif decide (v1 < v0) then ((ee v1).bind λx0=>
(dO v2 x0).bind λx1=>
(dO v2 x0).bind λx2=>
let x3:=(List.modify v2 x0 λe=>((-1),e.2));
let x4:=w64 (v1+1);
some (.inl (v0,x4,x3,()))) else
some (.inr (v0,v1,false,v2,()))
def pR:Option (LDLn×Unit):=
bif (sK 4 4 3) then let x0:LDLn:=(List.replicate 4 (0,(false,[])));
let x1:=dQ x0.length;
(dW wS NN (x1,0,x0,())).bind λ(x2,x3,x4,x5,_)=>
some (x5,()) else none
def BU:X.Cfg:=⟨E0,[],[(3,Ss)],[(lx 4 0 [Zaa 1 5,Uaa 5,Uaa 6] [(5,uL [jG])] 7)]⟩
def uD:Ctr:=⟨63,206,[],[],[⟨uL [jG],[.one],[]⟩],λh=>pR⟩
theorem Bx:Lk 1 uD:=ls BU aN
def m7(a0:List (Int)) (a1:Int) (a2:List (Int)) (a3:Int) (a4:Int) (a5:Int) (a6:Int):Option (T0e):=
(lG a2 a3 a4 a5 a6).bind λ(x0,_)=>
bif (!x0) then (some (0,0,1,())) else
(match (bif (a3==2) then (let x1:Int:=(wk .u16 (a4+a1));
some (.inl (0,0,a3,x1,()))) else
bif (a3==1) then ((kC a0 a1 a2 a5 a6).bind λ(x1,x2,_)=>
bif (x2 != 0) then (some (.inr (1,0,0,()))) else
let x3:=wk .u16 x1;
some (.inl (0,0,a3,x3,()))) else
some (.inl (0,0,a3,a4,())):Option (T0u⊕T0e)) with
| none=>none
| some (.inl (x1,x2,x3,x4,_))=>
some (x3,x4,0,())
| some (.inr (x1,x2,x3,_))=>
some (x2,x3,x1,()))
def GD:X.Cfg:=⟨E0,[oN,r8],[],[⟨5,0,qE,[(.normal,qS [zaa 6,zaa 8] [(14,uac),(18,uac)]),(.ret,qS [zaa 6,Uaa 7] [(14,uac)])]⟩]⟩
def yG:Ctr:=⟨64,207,[.agg yab,shU RI,.agg zaf],[],[⟨Zah,[.agg 2,.one],[]⟩],ap7 m7⟩
theorem FR:Lk 3 yG:=ls GD (aC sS (aC yW aN))
def gh:T3s->Option (T3s⊕(LDIn×LI×LLI×LI×Int×LLCn×LDTs×Int×LLCn×Int×Int×LDCn×T2R)):=λ(v0,v1,v2,v3,v4,v5,v6,v7,v8,v9,v10,v11,v12,v13,v14,v15,v16,v17,v18,v19,v20,v21,v22)=>
bif decide (v13 < v12) then ((ee v13).bind λx0=>
(dO v11 x0).bind λx1=>
(ee v7).bind λx2=>
(dO v3 x2).bind λx3=>
let x4:=w64 (x3+v13);
(m7 v3 v4 v1 x1.1 x1.2.1 x1.2.2.1 x1.2.2.2).bind λ(x5,x6,x7,_)=>
(ee x4).bind λx8=>
(dO v21 x8).bind λx9=>
(dO v21 x8).bind λac=>
let ae:=List.modify v21 x8 λe=>(x5,x6);
let af:=w64 (v13+1);
some (.inl (v0,v1,v2,v3,v4,v5,v6,v7,v8,v9,v10,v11,v12,af,v14,v15,v16,v17,v18,v19,v20,ae,v22))) else
some (.inr (v0,v1,v2,v3,v4,v5,v6,v7,v8,v9,v10,v11,v12,v13,false,v14,v15,v16,v17,v18,v19,v20,v21,v22))
def gg:T3l->Option (T3l⊕(LDIn×LI×LLI×LI×Int×LLCn×LDTs×LLCn×T2R)):=λ(v0,v1,v2,v3,v4,v5,v6,v7,v8,v9,v10)=>
bif decide (v9 < v8) then ((ee v9).bind λx0=>
(dO v7 x0).bind λx1=>
let x2:=dQ x1.length;
(dW gh NN (v0,v1,v2,v3,v4,v5,v6,v9,v7,v8,v9,x1,x2,0,v10)).bind λ(x3,x4,x5,x6,x7,x8,x9,ac,ae,af,ag,ah,ai,aj,ak,am)=>
let aD:=w64 (ag+1);
some (.inl (x3,x4,x5,x6,x7,x8,x9,ae,af,aD,am))) else
some (.inr (v0,v1,v2,v3,v4,v5,v6,v7,v8,v9,false,v10))
def gf:T3R->Option (T3R⊕(LDIn×LI×LLI×LI×Int×LDTs×Int×Int×LDCn×Int×Int×Bool×T3x)):=λ(v0,v1,v2,v3,v4,v5,v6,v7,v8,v9,v10,v11,v12,v13,v14,v15,v16,v17,v18,v19,v20,v21,v22,v23,v24,v25,v26,v27,v28,v29,v30,v31)=>
bif decide (v10 < v9) then ((ee v10).bind λx0=>
(dO v8 x0).bind λx1=>
(m7 v3 v4 v1 x1.1 x1.2.1 x1.2.2.1 x1.2.2.2).bind λ(x2,x3,x4,_)=>
(ee v10).bind λx5=>
(dO v30 x5).bind λx6=>
(dO v30 x5).bind λx7=>
let x8:=List.modify v30 x5 λe=>(x2,x3);
let x9:=w64 (v10+1);
some (.inl (v0,v1,v2,v3,v4,v5,v6,v7,v8,v9,x9,v11,v12,v13,v14,v15,v16,v17,v18,v19,v20,v21,v22,v23,v24,v25,v26,v27,v28,v29,x8,v31))) else
some (.inr (v0,v1,v2,v3,v4,v5,v6,v7,v8,v9,v10,false,v11,v12,v13,v14,v15,v16,v17,v18,v19,v20,v21,v22,v23,v24,v25,v26,v27,v28,v29,v30,v31))
def ge:T3c->Option (T3c⊕(LDIn×LI×LLI×LI×Int×LDTs×Int×T2E)):=λ(v0,v1,v2,v3,v4,v5,v6,v7,v8,v9,v10,v11,v12,v13,v14,v15,v16,v17,_)=>
bif decide (v7 < v6) then ((ee v7).bind λx0=>
(dO v5 x0).bind λx1=>
(i7 x1.1 x1.2.1 x1.2.2.1 x1.2.2.2.1 x1.2.2.2.2.1 x1.2.2.2.2.2.1 x1.2.2.2.2.2.2.1 x1.2.2.2.2.2.2.2).bind λ(x2)=>
let ac:=dQ x1.2.2.2.2.2.2.2.length;
(dW gf NN (v0,v1,v2,v3,v4,v5,v6,v7,x1.2.2.2.2.2.2.2,ac,0,v8,v9,v10,v11,v12,v13,v14,v15,v16,v17,x1.1,x1.2.1,x1.2.2.1,x1.2.2.2.1,x1.2.2.2.2.1,x1.2.2.2.2.2.1,x1.2.2.2.2.2.2.1,x1.2.2.2.2.2.2.2,x2)).bind λ(ae,af,ag,ah,ai,aj,ak,am,an,ap,aq,av,ax,ay,az,aA,aB,aD,aE,aF,aG,aH,aI,aJ,aK,aL,aM,aO,aP,aQ,aR,aS,aT,aU,aV,aW,aY,aZ,_)=>
let ba:LDTh:=[(aR,(aS,(aT,(aU,(aV,(aW,(aY,aZ)))))))];
bif (d9 80 aH.length ba.length) then let bc:LDTh:=(List.append aH ba);
let bd:=w64 (am+1);
some (.inl (ae,af,ag,ah,ai,aj,ak,bd,ax,ay,az,aA,aB,aD,aE,aF,aG,bc,())) else none) else
some (.inr (v0,v1,v2,v3,v4,v5,v6,v7,false,v8,v9,v10,v11,v12,v13,v14,v15,v16,v17,()))
def fD(a0:LDIn) (a1:List (Int)) (a2:List LI) (a3:List (Int)) (a4:Int) (a5:List LDCn) (a6:LDTs):Option (T1l):=
((iB a0 a1 a2 a5 a6).bind λ(x0,_)=>
bif (!x0) then (some (a0,a1,a2,a3,a4,a5,a6,true,(),0,(),(),(),())) else
(j9 a3 a4 a1).bind λ(x1,_)=>
bif (!x1) then (some (a0,a1,a2,a3,a4,a5,a6,true,(),0,(),(),(),())) else
(gd a5 a6 a0 a1 a2).bind λ(x2,_)=>
some (a0,a1,a2,a3,a4,a5,a6,x2,(),0,(),(),(),()):Option (LDIn×LI×LLI×LI×Int×LLCn×LDTs×T18)).bind λ(x0,x1,x2,x3,x4,x5,x6,x7,x8,x9,ac,ae,af,_)=>
bif x7 then (some ([],0,[],[],[],false,())) else
(qX x3 x4).bind λ(ag,ah,_)=>
bif (sK 512 512 2) then let ai:LDCe:=(List.replicate 512 (0,0));
(pR).bind λ(aj,_)=>
let ak:=dQ x5.length;
(dW gg NN (x0,x1,x2,x3,x4,x5,x6,x5,ak,0,x8,x9,ac,ae,af,ag,ah,ai,aj,(),())).bind λ(am,an,ap,aq,av,ax,ay,az,aA,aB,aD,aE,aF,aG,aH,aI,aJ,aK,aL,aM,aO,_)=>
let aP:=dQ ay.length;
(dW ge NN (am,an,ap,aq,av,ay,aP,0,aE,aF,aG,aH,aI,aJ,aK,aL,aM,[],())).bind λ(aQ,aR,aS,aT,aU,aV,aW,aY,aZ,ba,bc,bd,bf,bg,bh,bi,bj,bk,bm,_)=>
some (bh,bi,bj,bk,bm,true,()) else none
def vP:X.Cfg:=⟨E0,[qG,uE,ni,wB,uD,yG,nB],[(110,Ps),(111,Ps)],[⟨2,0,qE,[(.normal,qS [(3,.ip uab),(4,.ip yab),(5,.ip zac),zaa 6,Xaa 33] [(14,Zab)])]⟩,⟨13,1,qS [(3,.ip uab),(4,.ip yab),(5,.ip zac),zaa 6,zaa 8,Uaa 9,sP 42 (yaa ej),Uaa 43,Uaa 44,sP 49 ej,Uaa 50,Uaa 51] [(14,Zab),(18,yak)],[(.exit 2,qS [(3,.ip uab),(4,.ip yab),(5,.ip zac),zaa 6,zaa 8,Uaa 9,sP 42 (yaa ej),Uaa 43,Uaa 44,sP 49 ej,Uaa 50,Uaa 51,Xaa 52] [(14,Zab),(18,yak)])]⟩,(lx 7 2 [(3,.ip uab),(4,.ip yab),(5,.ip zac),zaa 6,zaa 8,sP 42 (yaa ej),Uaa 43,Uaa 44] [(14,Zab),(18,yak)] 45),⟨28,3,qS [(3,.ip uab),(4,.ip yab),zaa 6,zaa 8,zaa 15,sP 78 (yaa jP),Uaa 79,Uaa 80,sP 87 ej,Uaa 88,Uaa 89] [(14,Zab),(18,uaj),(30,yah),(32,Zaf)],[(.exit 6,qS [(3,.ip uab),(4,.ip yab),zaa 6,zaa 8,zaa 15,sP 78 (yaa jP),Uaa 79,Uaa 80,sP 87 ej,Uaa 88,Uaa 89,Xaa 90] [(14,Zab),(18,uaj),(30,yah),(32,Zaf)])]⟩,⟨20,4,qS [(3,.ip uab),(4,.ip yab),zaa 6,zaa 8,sP 78 (yaa jP),Uaa 79,Uaa 80] [(14,Zab),(18,uaj)],[(.exit 4,qS [(3,.ip uab),(4,.ip yab),zaa 6,zaa 8,sP 78 (yaa jP),Uaa 79,Uaa 80,Xaa 81] [(14,Zab),(18,uaj)])]⟩]⟩
def pN:Ctr:=⟨22,208,[.agg uab,.agg yab,.agg zac],[],[⟨uL [(uaa I64),CW,(uaa KCe),jG,p9,.bool],[.agg 5,.one],[]⟩],ap7 fD⟩
theorem vJ:Lk 11 pN:=ls vP (aC xp (aC By (aC sU (aC DH (aC Bx (aC FR (aC rZ aN)))))))
def lB:Int×Int×T0I->Option ((Int×Int×T0I)⊕((Bool×Unit)⊕(Int×Int×Bool×T0I))):=λ(v0,v1,v2,v3,v4,v5,_)=>
bif decide (v1 < v0) then ((ee v1).bind λx0=>
(dO v2 x0).bind λx1=>
(ee v1).bind λx2=>
(dO v4 x2).bind λx3=>
bif (x1 != x3) then (some (.inr (.inl (false,())))) else
let x4:=w64 (v1+1);
some (.inl (v0,x4,v2,v3,v4,v5,()))) else
some (.inr (.inr (v0,v1,false,v2,v3,v4,v5,())))
def pu(a0:List (Int)) (a1:Int) (a2:List (Int)) (a3:Int):Option (Bool×Unit):=
bif (a1 != a3) then (some (false,())) else
let x0:=dQ a0.length;
let x1:=dQ a2.length;
bif (x0 != x1) then (some (false,())) else
let x2:=dQ a0.length;
(match dW lB NN (x2,0,a0,a1,a2,a3,()) with
| none=>none
| some (.inl (x3,_))=>
some (x3,())
| some (.inr (x3,_))=>
some (true,()))
def GA:X.Cfg:=⟨E0,[],[],[⟨6,0,qS [zaa 2,zaa 3,Uaa 22,Uaa 23] [(6,yab),(8,yab)],[(.ret,qS [Xaa 4] []),(.exit 0,qS [zaa 2,zaa 3,Uaa 22,Uaa 23,Xaa 24] [(6,yab),(8,yab)])]⟩]⟩
def yF:Ctr:=⟨26,209,[.agg yab,.agg yab],[],[⟨zab,[.one],[]⟩],ap4 pu⟩
theorem FQ:Lk 1 yF:=ls GA aN
def lF:LDCe×T0j->Option ((LDCe×T0j)⊕((Bool×Unit)⊕(LDCe×T0A))):=λ(v0,v1,v2,v3,_)=>
bif decide (v3 < v2) then ((ee v3).bind λx0=>
(dO v0 x0).bind λx1=>
(ee v3).bind λx2=>
(dO v1 x2).bind λx3=>
bif (!((x1.1==x3.1) && ((x1.2==x3.2) && true))) then (some (.inr (.inl (false,())))) else
let x4:=w64 (v3+1);
some (.inl (v0,v1,v2,x4,()))) else
some (.inr (.inr (v0,v1,v2,v3,false,())))
def kM(a0:LDCe) (a1:LDCe):Option (Bool×Unit):=
let x0:=dQ a0.length;
let x1:=dQ a1.length;
bif (x0 != x1) then (some (false,())) else
let x2:=dQ a0.length;
(match dW lF NN (a0,a1,x2,0,()) with
| none=>none
| some (.inl (x3,_))=>
some (x3,())
| some (.inr (x3,_))=>
some (true,()))
def GC:X.Cfg:=⟨E0,[],[],[⟨6,0,qS [sP 0 fq,sP 1 fq,Uaa 12,Uaa 13] [],[(.ret,qS [Xaa 4] []),(.exit 0,qS [sP 0 fq,sP 1 fq,Uaa 12,Uaa 13,Xaa 14] [])]⟩]⟩
def tF:Ctr:=⟨112,210,uL [fq,fq],[],[⟨zab,[.one],[]⟩],ap2 kM⟩
theorem yd:Lk 1 tF:=ls GC aN
def lA:Int×Int×T0B->Option ((Int×Int×T0B)⊕((Bool×Unit)⊕T1u)):=λ(v0,v1,v2,v3,v4,v5,_)=>
bif decide (v1 < v0) then ((ee v1).bind λx0=>
(dO v3 x0).bind λx1=>
(ee v1).bind λx2=>
(dO v5 x2).bind λx3=>
(bif (x1.1 != x3.1) then (some (v0,v1,true,v2,v3,v4,v5,())) else
bif (!(x1.2.1==x3.2.1)) then (some (v0,v1,true,v2,v3,v4,v5,())) else
(kM x1.2.2 x3.2.2).bind λ(x4,_)=>
some (v0,v1,(!x4),v2,v3,v4,v5,()):Option (T1u)).bind λ(x4,x5,x6,x7)=>
bif x6 then (some (.inr (.inl (false,())))) else
let ae:=w64 (x5+1);
some (.inl (x4,ae,x7))) else
some (.inr (.inr (v0,v1,false,v2,v3,v4,v5,())))
def po(a0:LDCe) (a1:LDLn) (a2:LDCe) (a3:LDLn):Option (Bool×Unit):=
(kM a0 a2).bind λ(x0,_)=>
bif (!x0) then (some (false,())) else
let x1:=dQ a1.length;
let x2:=dQ a3.length;
bif (x1 != x2) then (some (false,())) else
let x3:=dQ a1.length;
(match dW lA NN (x3,0,a0,a1,a2,a3,()) with
| none=>none
| some (.inl (x4,_))=>
some (x4,())
| some (.inr (x4,_))=>
some (true,()))
def Gx:X.Cfg:=⟨E0,[tF],[],[⟨12,0,qE,[(.normal,qS [zaa 2,zaa 3,Uaa 25,Uaa 26,Xaa 58] [(6,Xad),(8,Xad)])]⟩,⟨6,1,qS [zaa 2,zaa 3,Uaa 25,Uaa 26] [(6,Xad),(8,Xad)],[(.ret,qS [Xaa 4] []),(.exit 0,qS [zaa 2,zaa 3,Uaa 25,Uaa 26,Xaa 27] [(6,Xad),(8,Xad)])]⟩]⟩
def yC:Ctr:=⟨69,211,[.agg Xad,.agg Xad],[],[⟨zab,[.one],[]⟩],ap4 po⟩
theorem FN:Lk 2 yC:=ls Gx (aC yd aN)
def pm(a0:Int) (a1:LDCe) (a2:Int) (a3:Int) (a4:Int) (a5:Int) (a6:Int) (a7:Int) (a8:Int) (a9:LDCe) (a10:Int) (a11:Int) (a12:Int) (a13:Int) (a14:Int) (a15:Int):Option (Bool×Unit):=
bif (a0==a8) then (bif (a2==a10) then (bif (a3==a11) then (bif (a4==a12) then (bif (a5==a13) then (bif (a6==a14) then (bif (a7==a15) then ((kM a1 a9).bind λ(x0,_)=>
some (x0,())) else
some (false,())) else
some (false,())) else
some (false,())) else
some (false,())) else
some (false,())) else
some (false,())) else
some (false,())
def Gp:X.Cfg:=⟨E0,[tF],[],[]⟩
def yA:Ctr:=⟨70,212,[.agg Zad,.agg Zad],[],[⟨zab,[.one],[]⟩],ap16 pm⟩
theorem FL:Lk 2 yA:=ls Gp (aC yd aN)
def lq:T2L->Option (T2L⊕((Bool×Unit)⊕(Int×Int×T2t))):=λ(v0,v1,v2,v3,v4,v5,v6,v7,v8,v9,v10,v11,_)=>
bif decide (v1 < v0) then ((ee v1).bind λx0=>
(dO v6 x0).bind λx1=>
(ee v1).bind λx2=>
(dO v11 x2).bind λx3=>
(pm x1.1 x1.2.1 x1.2.2.1 x1.2.2.2.1 x1.2.2.2.2.1 x1.2.2.2.2.2.1 x1.2.2.2.2.2.2.1 x1.2.2.2.2.2.2.2 x3.1 x3.2.1 x3.2.2.1 x3.2.2.2.1 x3.2.2.2.2.1 x3.2.2.2.2.2.1 x3.2.2.2.2.2.2.1 x3.2.2.2.2.2.2.2).bind λ(x4,_)=>
bif (!x4) then (some (.inr (.inl (false,())))) else
let x5:=w64 (v1+1);
some (.inl (v0,x5,v2,v3,v4,v5,v6,v7,v8,v9,v10,v11,()))) else
some (.inr (.inr (v0,v1,false,v2,v3,v4,v5,v6,v7,v8,v9,v10,v11,())))
def pj(a0:List (Int)) (a1:Int) (a2:LDCe) (a3:LDLn) (a4:LDTh) (a5:List (Int)) (a6:Int) (a7:LDCe) (a8:LDLn) (a9:LDTh):Option (Bool×Unit):=
((pu a0 a1 a5 a6).bind λ(x0,_)=>
bif (!x0) then (some (true,a0,a1,a2,a3,a4,a5,a6,a7,a8,a9,())) else
(po a2 a3 a7 a8).bind λ(x1,_)=>
bif (!x1) then (some (true,a0,a1,a2,a3,a4,a5,a6,a7,a8,a9,())) else
let x2:=dQ a4.length;
let x3:=dQ a9.length;
some ((x2 != x3),a0,a1,a2,a3,a4,a5,a6,a7,a8,a9,()):Option (T2t)).bind λ(x0,x1,x2,x3,x4,x5,x6)=>
bif x0 then (some (false,())) else
let ae:=dQ x5.length;
(match dW lq NN (ae,0,x1,x2,x3,x4,x5,x6) with
| none=>none
| some (.inl (af,_))=>
some (af,())
| some (.inr (af,_))=>
some (true,()))
def Gn:X.Cfg:=⟨E0,[yF,yC,yA],[],[⟨2,0,qE,[(.normal,qS [zaa 2,zaa 3,Xaa 28] [(6,yac),(8,yac)])]⟩,⟨6,1,qS [zaa 2,zaa 3,Uaa 31,Uaa 32] [(6,yac),(8,yac)],[(.ret,qS [Xaa 4] []),(.exit 0,qS [zaa 2,zaa 3,Uaa 31,Uaa 32,Xaa 33] [(6,yac),(8,yac)])]⟩]⟩
def yz:Ctr:=⟨24,213,[.agg yac,.agg yac],[],[⟨zab,[.one],[]⟩],ap10 pj⟩
theorem FJ:Lk 3 yz:=ls Gn (aC FQ (aC FN (aC FL aN)))
def ft:T3p->Option (T3p⊕((Bool×Unit)⊕(Int×Int×Int×Int×Bool×T3a))):=λ(v0,v1,v2,v3,v4,v5,v6,v7,v8,v9,v10,v11,v12,v13,v14,v15,v16,v17,v18,v19,_)=>
bif decide (v3 < v2) then ((ee v3).bind λx0=>
(dO v19 x0).bind λx1=>
(dO v19 x0).bind λx2=>
(fD v4 v5 v6 x2.1 x2.2 v16 v17).bind λ(x3,x4,x5,x6,x7,x8,_)=>
(fF v4 v5 v6 x2.1 x2.2 v16 v17).bind λ(x9,ac,ae,af,ag,ah,_)=>
bif (!(x8==ah)) then (some (.inr (.inl (false,())))) else
(pj x3 x4 x5 x6 x7 x9 ac ae af ag).bind λ(ai,_)=>
bif (!ai) then (some (.inr (.inl (false,())))) else
let aj:=w64 (v3+1);
some (.inl (v0,v1,v2,aj,v4,v5,v6,v7,v8,v9,v10,v11,v12,v13,v14,v15,v16,v17,v18,v19,()))) else
some (.inr (.inr (v0,v1,v2,v3,false,v4,v5,v6,v7,v8,v9,v10,v11,v12,v13,v14,v15,v16,v17,v18,v19,())))
def fr:T32->Option (T32⊕(Int×Int×Bool×T2W)):=λ(v0,v1,v2,v3,v4,v5,v6,v7,v8,v9,v10,v11,v12,v13,v14,_)=>
bif decide (v1 < v0) then ((ee v1).bind λx0=>
(dO v14 x0).bind λx1=>
(dO v14 x0).bind λx2=>
let x3:List (LI×Int):=[(v5,v6),(v10,v11),(v12,v13)];
let x4:=dQ x3.length;
(match dW ft NN (v0,v1,x4,0,v2,v3,v4,v5,v6,v7,v8,v9,v10,v11,v12,v13,x2.1,x2.2,v14,x3,()) with
| none=>none
| some (.inl (x5,_))=>
none
| some (.inr (x5,x6,x7,x8,x9,ac,ae,af,ag,ah,ai,aj,ak,am,an,ap,aq,av,ax,ay,az,_))=>
let aA:=w64 (x6+1);
some (.inl (x5,aA,ac,ae,af,ag,ah,ai,aj,ak,am,an,ap,aq,ay,())))) else
some (.inr (v0,v1,false,v2,v3,v4,v5,v6,v7,v8,v9,v10,v11,v12,v13,v14,()))
def iA(a0:List (Int)) (a1:Int) (a2:Int) (a3:Int) (a4:Int):Option (Bool×Unit):=
(mL a0 0).bind λ(x0,x1,x2,x3,x4,x5,x6,x7,_)=>
(lm x0 x1 x2 x3 x4 x5 x6 x7).bind λ(ac,ae,_)=>
(is a1 1048576).bind λ(af,_)=>
(m6 x1 af).bind λ(ag,ah,ai,_)=>
bif (d9 8 0 ag.length) then let aj:List (Int):=(List.append [] ag);
(is a4 600).bind λ(ak,_)=>
let am:=w64 (ak - 20);
(dO aj 0).bind λan=>
(dO aj 0).bind λap=>
let aq:=List.modify aj 0 λe=>am;
(mI ac ae a2 a3 a4).bind λ(av,ax,_)=>
let ay:List (LLCn×LDTs):=[(ac,ae),(av,ax)];
let az:=dQ ay.length;
(dW fr NN (az,0,x0,x1,x2,x3,x4,x5,x6,x7,ag,ah,aq,0,ay,())).bind λ(_)=>
(qY).bind λ(aS,_)=>
some (aS,()) else none
def qz:X.Cfg:=⟨E0,[uK,rC,zE,tD,uF,pN,p5,yz,wC],[(58,(.pair (uaa (uaa KCn)) (uaa Cd))),(68,(.pair (uaa I64) CW))],[⟨14,0,qS [zaa 11,zaa 12,zaa 14,zaa 16,zaa 18,Zaa 58 119,Uaa 59,Uaa 60,Zaa 68 139,Uaa 69,Uaa 70] [(24,uab),(26,yac),(30,yab),(34,yab),(38,zac),(119,zak),(139,Zal)],[(.ret,qS [Xaa 10] []),(.exit 2,qS [zaa 11,zaa 12,zaa 14,zaa 16,zaa 18,Zaa 58 119,Uaa 59,Uaa 60,Zaa 68 139,Uaa 69,Uaa 70,Xaa 71] [(24,uab),(26,yac),(30,yab),(34,yab),(38,zac),(119,zak),(139,Zal)])]⟩,(lx 8 1 [zaa 11,zaa 12,zaa 14,zaa 16,Zaa 58 119,Uaa 59,Uaa 60] [(24,uab),(26,yac),(30,yab),(34,yab),(119,zak)] 61)]⟩
def kT:Ctr:=⟨4,214,uL [RI,I64,I64,I64,I64],[],[⟨zab,[.one],[]⟩],ap5 iA⟩
theorem k_law13_CanonicalInjects:Lk 12 kT:=ls qz (aC BE (aC vB (aC DG (aC yc (aC Bz (aC vJ (aC up (aC FJ (aC DI aN)))))))))
end
end Go.Proofs.YtjadkocggchfnaaGreat
namespace Go.Proofs.YtjadkocggchfnaaGreat
set_option maxRecDepth 100000
noncomputable section
end
end Go.Proofs.YtjadkocggchfnaaGreat
namespace Go.Proofs.YtjadkocggchfnaaGreat
open Go.RowKit
theorem SL:(Tryz.prog.funcs.all λfn=>!(fn.name=="runtime.NumGoroutine"))=true:=by kernel_rfl
theorem Ky:tK Tryz.prog 6:=by
 obtain⟨fn,hf,hb⟩:∃fn,Tryz.prog.funcs[6]?=some fn/\fn.body.isSome=true:=by
  have hs:(match Tryz.prog.funcs[6]? with | some fn=>fn.body.isSome | none=>false)=true:=by kernel_rfl
  cases h:Tryz.prog.funcs[6]? with
  | none=>rw[h] at hs;cases hs
  | some fn=>rw[h] at hs;exact⟨fn,rfl,hs⟩
 obtain⟨c,hc⟩:=Option.isSome_iff_exists.1 hb;refine GW hf ?_ hc;obtain⟨hlt,he⟩:=Array.getElem?_eq_some_iff.1 hf;have:=Array.all_eq_true.1 SL 6 hlt;rw[he] at this;simpa using this
def Ro(x:Value) (w:World) (e:Ending) (w':World):Prop:=e=.returned (.pointer (some ⟨w.heap.size,0,none⟩))/\w'=w.alloc (.cells #[x,.int .i64 0] 68)
theorem QI(x:Value) (hx:x.oneCell'=true) (w:World) :
 Calls Tryz.prog 6 #[x] w (Ro x w):=by
 cases x
 all_goals first
  | (go_enter Tryz.func6,Tryz.ntmps6
     go_wp2
     go_ret
     exact⟨rfl,rfl⟩)
  | simp[Value.oneCell'] at hx
theorem e0_ok:NH Tryz.prog E0:=by
 intro f n tm h;simp only[E0] at h;split at h
 ·rename_i e;subst e
  injection h with h
  injection h with h1 h2
  subst h1 h2;refine⟨Ky,λx hx=>?_,68,λl2 w hl Zs=>?_⟩
  ·simp only[List.mem_cons,List.not_mem_nil,or_false] at hx;rcases hx with hx | hx
   ·simp_all
   ·injection hx with hx;rw[hx];rfl
  ·match l2,hl with
   | [x],_=>exact QI x (Zs x (by simp[bxV])) w
 ·simp at h
def Ok{α:Type}(o:Option α) (Q:α->Prop):Prop:=∃a,o=some a/\Q a
section
variable {α β:Type}
theorem Ok.ret{a:α}{Q:α->Prop}(h:Q a):Ok (some a) Q:=⟨a,rfl,h⟩
theorem Ok.bind{o:Option α}{f:α->Option β}{P:α->Prop}{Q:β->Prop}(h:Ok o P) (h2:∀a,P a->Ok (f a) Q):Ok (o.bind f) Q:=by
 obtain⟨a,rfl,h1⟩:=h
 simp_all
theorem Ok.mono{o:Option α}{P Q:α->Prop}(h:Ok o P) (h2:∀a,P a->Q a):Ok o Q:=by
 have ⟨a,e,h1⟩:=h;exact⟨a,e,h2 a h1⟩
theorem Ok.cond{c:Bool}{a b:Option α}{Q:α->Prop}(h1:c=true->Ok a Q) (h2:c=false->Ok b Q):Ok (bif c then a else b) Q:=by
 grind
class BP (b:Bool) (P N:outParam Prop):Prop where
 t:b=true->P
 f:b=false->N
instance (priority:=low) bpVar {b:Bool}:BP b (b=true) (b=false):=⟨id,id⟩
instance Tm {p:Prop} {i:Decidable p}:BP (@decide p i) p (¬ p):=⟨of_decide_eq_true,of_decide_eq_false⟩
instance TA {α:Type} [BEq α] [LawfulBEq α] {a b:α}:BP (a==b) (a=b) (¬ a=b):=⟨eq_of_beq,λh=>beq_eq_false_iff_ne.1 h⟩
instance Tz {α:Type} [BEq α] [LawfulBEq α] {a b:α}:BP (a != b) (¬ a=b) (a=b):=⟨λh=>bne_iff_ne.1 h,λh=>bne_eq_false_iff_eq.1 h⟩
instance Tl {b:Bool} {P N:Prop} [h:BP b P N]:BP (!b) N P:=⟨λe=>h.f (by simpa using e),λe=>h.t (by simpa using e)⟩
theorem dM{c:Bool}{P N:Prop} [h:BP c P N] {a b:Option α}{Q:α->Prop}(h1:P->Ok a Q) (h2:N->Ok b Q):Ok (bif c then a else b) Q:=by
 cases hc:c with
 | true=>exact h1 (h.t hc)
 | false=>exact h2 (h.f hc)
theorem Ok.get{l:List α}{i:Nat}{f:α->Option β}{Q:β->Prop}(h:i < l.length) (h2:∀a,l[i]?=some a->Ok (f a) Q):Ok ((dO l i).bind f) Q:=by
 have e:dO l i=some l[i]:=oGE h
 simp_all
theorem Ok.nat{x:Int}{f:Nat->Option β}{Q:β->Prop}(h:0<=x) (h2:∀n:Nat,x=n->Ok (f n) Q):Ok ((ee x).bind f) Q:=by
 obtain⟨n,rfl⟩:∃n:Nat,x=n:=⟨x.toNat,by omega⟩;exact h2 n rfl
theorem Ok.val{v:α}{f:α->Option β}{Q:β->Prop}(h:∀x,x=v->Ok (f x) Q):Ok (f v) Q:=h v rfl
theorem dL{c:Bool}{a b:Option α}{Q:α->Prop}(hc:c=true) (h1:Ok a Q):Ok (bif c then a else b) Q:=by simp_all
theorem gK{S T:Type}{f:S->Option (S⊕T)}(P:S->Prop) (R:T->Prop) (m:S->Nat) {n:Nat}{s:S}(hs:P s) (hm:m s < n)
 (h:∀s,P s->Ok (f s) λr=>match r with | .inl s'=>P s'/\m s' < m s | .inr t=>R t):Ok (dW f n s) R:=by
 induction n generalizing s with
 | zero=>omega
 | succ n ih=>
  have ⟨r,e,hr⟩:=h s hs
  cases r with
  | inl s'=>
   have ⟨t,e2,hq⟩:=ih hr.1 (by omega);exact⟨t,by simp[dW,e];exact e2,hq⟩
  | inr t=>exact⟨t,by simp[dW,e],hr⟩
theorem Ok.loop{S T:Type}{f:S->Option (S⊕T)}{g:T->Option β}{Q:β->Prop}(P:S->Prop) (R:T->Prop) (m:S->Nat) {n:Nat}{s:S}(hs:P s) (hm:m s < n)
 (h:∀s,P s->Ok (f s) λr=>match r with | .inl s'=>P s'/\m s' < m s | .inr t=>R t) (hg:∀t,R t->Ok (g t) Q):Ok ((dW f n s).bind g) Q:=(gK P R m hs hm h).bind hg
end
theorem dU{x:Int}(h1:-9223372036854775808<=x) (h2:x<=9223372036854775807):w64 x=x:=NM h1 h2
theorem dP(n:Nat):ee (n:Int)=some n:=rfl
theorem d7(n:Nat):dQ n=(n:Int):=rfl
theorem dR{α:Type}{l:List α}{i:Nat}{a:α}(h:l[i]?=some a):a∈l:=List.mem_of_getElem? h
def W16(x:Int):Prop:=0<=x/\x<=65535
end Go.Proofs.YtjadkocggchfnaaGreat
