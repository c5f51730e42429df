/- Part of the proof; no condition. -/
import Derived.Test.YtjadkocggchfnaaGreatCc
import Derived.WalkKit
import Derived.WalkSpells
import Derived.Handy
import Derived.OpenShut
set_option linter.unusedVariables false
set_option linter.unusedSimpArgs false
namespace Go.Proofs.YtjadkocggchfnaaGreat
open Go.RowKit
set_option maxRecDepth 100000
noncomputable section
abbrev qE:Shs:=⟨[],[],[],([],[])⟩
abbrev qS(s:List (Nat×Sh))(c:List (Nat×List Sh)):Shs:=⟨s,c,[],([],[])⟩
abbrev N1:CT:=.nilr true
abbrev N0:CT:=.nilr false
abbrev CW:CT:=.int .u16
abbrev CB:CT:=.int .u8
abbrev uL(l:List CT):List Sh:=l.map fun c=>.d c ()
abbrev pP(t r:Nat):Nat×Sh:=(t,.ptr ⟨r,0,[]⟩ [0])
abbrev sP(t:Nat)(c:CT):Nat×Sh:=(t,.d c ())
abbrev Lk(n:Nat)(c:Ctr):Prop:=Lvl E0 TT noB n c
theorem aN{m:Nat}:Kt E0 TT noB m []:=trivial
theorem aC{n m:Nat}{c:Ctr}{l:List Ctr}(h:Lk n c)(r:Kt E0 TT noB m l)(hm:n≤m:=by decide):Kt E0 TT noB m (c::l):=⟨h.mono hm,r⟩
abbrev lx(i n:Nat)(s:List (Nat×Sh))(c:List (Nat×List Sh))(b:Nat):HM:=⟨i,n,⟨s,c,[],([],[])⟩,[(.exit 0,⟨s++[(b,.d .bool ())],c,[],([],[])⟩)]⟩
abbrev LI:Type:=List Int
abbrev LLI:Type:=List (List Int)
abbrev LDCe:Type:=List DCe
abbrev LDCn:Type:=List DCn
abbrev LDIn:Type:=List DIn
abbrev LDOp:Type:=List DOp
abbrev LDLn:Type:=List DLn
abbrev LDTh:Type:=List DTh
abbrev LDOu:Type:=List DOu
abbrev LDTs:Type:=List DTs
abbrev LDEn:Type:=List DEn
abbrev LLCn:Type:=List (List DCn)
abbrev T00:Type:=Bool×LI×Unit
abbrev T01:Type:=Int×Bool×Unit
abbrev T02:Type:=Int×Int×Unit
abbrev T03:Type:=Int×LI×Unit
abbrev T04:Type:=Int×LLCn×Unit
abbrev T05:Type:=LDCe×LDLn×Unit
abbrev T06:Type:=LDOp×LDCn×Unit
abbrev T07:Type:=LI×Bool×Unit
abbrev T08:Type:=LI×Int×Unit
abbrev T09:Type:=LI×LLI×Unit
abbrev T0a:Type:=LLCn×LDOp×Unit
abbrev T0b:Type:=LLCn×LDTs×Unit
abbrev T0c:Type:=Unit×Unit×Unit
abbrev T0d:Type:=Bool×T02
abbrev T0e:Type:=Int×T01
abbrev T0f:Type:=Int×T02
abbrev T0g:Type:=Int×T03
abbrev T0h:Type:=Int×T04
abbrev T0i:Type:=Int×T07
abbrev T0j:Type:=Int×T08
abbrev T0k:Type:=LDCe×T02
abbrev T0l:Type:=LDCn×T02
abbrev T0m:Type:=LDIn×T09
abbrev T0n:Type:=LDTs×T02
abbrev T0o:Type:=LI×T02
abbrev T0p:Type:=LI×T03
abbrev T0q:Type:=LI×LLI×LI×Unit
abbrev T0r:Type:=LLCn×T02
abbrev T0s:Type:=LLCn×LDTs×LI×Unit
abbrev T0t:Type:=Bool×Bool×Bool×Bool×Unit
abbrev T0u:Type:=Int×T0d
abbrev T0v:Type:=Int×Bool×T08
abbrev T0w:Type:=Int×Int×T00
abbrev T0x:Type:=Int×Int×Bool×LLCn×Unit
abbrev T0y:Type:=Int×T0f
abbrev T0z:Type:=Int×Int×T05
abbrev T0A:Type:=Int×T0i
abbrev T0B:Type:=Int×T0j
abbrev T0C:Type:=Int×Int×T0a
abbrev T0D:Type:=Int×T0p
abbrev T0E:Type:=LDCe×T0e
abbrev T0F:Type:=LDCn×T0e
abbrev T0G:Type:=LDCn×T0g
abbrev T0H:Type:=LDCn×T0l
abbrev T0I:Type:=LDTh×T0g
abbrev T0J:Type:=LDTs×T0e
abbrev T0K:Type:=LDTs×T0n
abbrev T0L:Type:=LI×T0e
abbrev T0M:Type:=LI×T0f
abbrev T0N:Type:=LI×T0o
abbrev T0O:Type:=LLCn×LDTs×T0b
abbrev T0P:Type:=Unit×T0j
abbrev T0Q:Type:=Unit×Unit×T05
abbrev T0R:Type:=Unit×Unit×T09
abbrev T0S:Type:=Unit×Unit×T0a
abbrev T0T:Type:=Unit×Unit×T0b
abbrev T0U:Type:=Unit×Unit×Unit×LDOp×Unit
abbrev T0V:Type:=Bool×T0y
abbrev T0W:Type:=Bool×T0S
abbrev T0X:Type:=Int×T0v
abbrev T0Y:Type:=Int×Int×Bool×T0a
abbrev T0Z:Type:=Int×T0y
abbrev T10:Type:=Int×Int×T0m
abbrev T11:Type:=Int×Int×T0s
abbrev T12:Type:=Int×T0S
abbrev T13:Type:=LDCe×LDLn×LI×T04
abbrev T14:Type:=LDIn×LI×LLI×T0b
abbrev T15:Type:=LDTs×T0J
abbrev T16:Type:=LI×T0B
abbrev T17:Type:=LI×Int×LDCe×LDLn×LDTh×Unit
abbrev T18:Type:=LLCn×T0C
abbrev T19:Type:=Unit×Int×Unit×T0c
abbrev T1a:Type:=Unit×Unit×T0q
abbrev T1b:Type:=Unit×Unit×LLCn×T06
abbrev T1c:Type:=Bool×T14
abbrev T1d:Type:=Bool×T17
abbrev T1e:Type:=Bool×T19
abbrev T1f:Type:=Int×Bool×T0R
abbrev T1g:Type:=Int×Int×Bool×T0m
abbrev T1h:Type:=Int×Int×Bool×T0s
abbrev T1i:Type:=Int×T0Z
abbrev T1j:Type:=Int×Int×T0O
abbrev T1k:Type:=Int×Int×T0R
abbrev T1l:Type:=Int×T12
abbrev T1m:Type:=Int×T17
abbrev T1n:Type:=LDCe×LDLn×LI×Int×LLCn×LDCn×Unit
abbrev T1o:Type:=LDCe×LDLn×T0Q
abbrev T1p:Type:=LDIn×T10
abbrev T1q:Type:=LDTs×T11
abbrev T1r:Type:=LI×T0X
abbrev T1s:Type:=LI×Int×LDCe×LDLn×LDTh×Bool×Unit
abbrev T1t:Type:=LI×LI×LLI×LLCn×LDOp×LDOu×Unit
abbrev T1u:Type:=LI×LLI×T0R
abbrev T1v:Type:=LLCn×T11
abbrev T1w:Type:=LLCn×LDOp×T0S
abbrev T1x:Type:=LLCn×LDTs×T0T
abbrev T1y:Type:=LLCn×LDTs×Unit×Unit×LLCn×Unit×Unit
abbrev T1z:Type:=LLI×T10
abbrev T1A:Type:=Unit×Unit×LLCn×Nat×T06
abbrev T1B:Type:=Int×Int×Bool×T0O
abbrev T1C:Type:=Int×T1f
abbrev T1D:Type:=Int×Int×T0W
abbrev T1E:Type:=Int×T1i
abbrev T1F:Type:=Int×Int×Int×Int×Unit×T01
abbrev T1G:Type:=Int×T1k
abbrev T1H:Type:=Int×Int×LDCn×T0x
abbrev T1I:Type:=Int×Int×LI×Int×Int×LLI×LDCn×Unit
abbrev T1J:Type:=Int×T1m
abbrev T1K:Type:=Int×Int×T1a
abbrev T1L:Type:=Int×T1p
abbrev T1M:Type:=Int×LI×Int×T0u
abbrev T1N:Type:=LDIn×T1g
abbrev T1O:Type:=LDIn×LI×LLI×LLCn×LDTs×(List (LLCn×LDTs))×Unit
abbrev T1P:Type:=LDTs×T1h
abbrev T1Q:Type:=LDTs×T1j
abbrev T1R:Type:=LLCn×T1h
abbrev T1S:Type:=LLI×T1g
abbrev T1T:Type:=LLI×T1l
abbrev T1U:Type:=LLI×Int×Int×T0U
abbrev T1V:Type:=Int×Int×Bool×T1a
abbrev T1W:Type:=Int×T1D
abbrev T1X:Type:=Int×T1E
abbrev T1Y:Type:=Int×Int×Int×Int×Int×Int×LDCn×LDCn×Unit
abbrev T1Z:Type:=Int×Int×Int×Int×Int×Int×T0c
abbrev T20:Type:=Int×T1K
abbrev T21:Type:=Int×Int×T1t
abbrev T22:Type:=Int×Int×T1u
abbrev T23:Type:=Int×Int×T1w
abbrev T24:Type:=Int×LDCe×T1i
abbrev T25:Type:=Int×T1N
abbrev T26:Type:=LDTh×T1J
abbrev T27:Type:=LDTs×T1B
abbrev T28:Type:=LI×Int×Unit×Unit×Unit×T0m
abbrev T29:Type:=LI×Int×Unit×Unit×T0R
abbrev T2a:Type:=LLCn×Int×Int×T14
abbrev T2b:Type:=Int×Int×Bool×T1t
abbrev T2c:Type:=Int×Int×Bool×T1u
abbrev T2d:Type:=Int×Int×Bool×T1w
abbrev T2e:Type:=Int×T1X
abbrev T2f:Type:=Int×Int×Int×Int×Int×Int×LDCn×LDCn×Int×Unit
abbrev T2g:Type:=Int×Int×Int×T1l
abbrev T2h:Type:=Int×T23
abbrev T2i:Type:=Int×Int×T1O
abbrev T2j:Type:=Int×LI×Int×Int×Bool×T0M
abbrev T2k:Type:=Int×T28
abbrev T2l:Type:=LDIn×LI×LLI×LI×Int×T0Q
abbrev T2m:Type:=LDLn×Int×Int×T1o
abbrev T2n:Type:=LDOu×T21
abbrev T2o:Type:=LI×Int×LI×Int×Int×T0M
abbrev T2p:Type:=LI×LI×Int×Int×T13
abbrev T2q:Type:=LI×LLCn×Int×Int×LDCn×T0C
abbrev T2r:Type:=LLCn×Int×Int×T1c
abbrev T2s:Type:=LLCn×T23
abbrev T2t:Type:=LLI×T21
abbrev T2u:Type:=LLI×T22
abbrev T2v:Type:=Int×Bool×T28
abbrev T2w:Type:=Int×Int×Bool×T1O
abbrev T2x:Type:=Int×Int×Int×Int×Int×Bool×Bool×Bool×T00
abbrev T2y:Type:=Int×Int×Int×Int×Int×Int×Int×Int×Int×LDCn×Unit
abbrev T2z:Type:=Int×Int×T1Y
abbrev T2A:Type:=Int×T2k
abbrev T2B:Type:=Int×Int×T29
abbrev T2C:Type:=LI×Int×Int×Int×Int×Int×T0P
abbrev T2D:Type:=LI×T2j
abbrev T2E:Type:=LI×LI×Int×Int×Bool×T13
abbrev T2F:Type:=LLI×T2c
abbrev T2G:Type:=Unit×Int×Unit×Unit×Unit×T17
abbrev T2H:Type:=Int×Int×T2l
abbrev T2I:Type:=Int×Int×T2u
abbrev T2J:Type:=Int×T2G
abbrev T2K:Type:=LDCe×Int×Int×T24
abbrev T2L:Type:=LDCn×Nat×Int×Int×Int×T1A
abbrev T2M:Type:=LI×Int×Bool×LI×T1E
abbrev T2N:Type:=LI×Int×Int×LI×Int×Int×T16
abbrev T2O:Type:=LLI×Int×Int×LI×Int×Int×T1b
abbrev T2P:Type:=ByteArray×LDCn×T2z
abbrev T2Q:Type:=Int×Int×Bool×T2l
abbrev T2R:Type:=Int×Int×T2x
abbrev T2S:Type:=Int×Int×Int×Int×LDCn×Int×T1e
abbrev T2T:Type:=Int×Int×Int×Int×Nat×T1K
abbrev T2U:Type:=Int×Int×Int×LDTs×Int×Int×T1x
abbrev T2V:Type:=Int×Int×Int×LLCn×Int×Int×T1y
abbrev T2W:Type:=LDIn×LI×LLI×LI×Int×LDCe×LDLn×LDTh×T0T
abbrev T2X:Type:=LI×Int×Int×T2j
abbrev T2Y:Type:=LI×Int×Int×LI×Int×Int×T1r
abbrev T2Z:Type:=LLI×T2H
abbrev T30:Type:=Int×Int×Bool×T2x
abbrev T31:Type:=LDIn×LI×LLI×LI×Int×LLCn×LDTs×Unit×Int×Unit×Unit×Unit×LLCn×Unit
abbrev T32:Type:=LI×Int×LDCe×LDLn×LDTh×T24
abbrev T33:Type:=LI×Int×LI×Int×Int×Int×Int×T1n
abbrev T34:Type:=Int×Int×LLI×Int×Int×LI×T22
abbrev T35:Type:=LI×Int×LI×Int×Int×Int×Int×Bool×T1n
abbrev T36:Type:=Int×Int×T31
abbrev T37:Type:=Int×Int×LDIn×LI×LLI×T2G
abbrev T38:Type:=LDTh×Int×Int×T2W
abbrev T39:Type:=LI×Int×LDCe×LDLn×LDTh×T2G
abbrev T3a:Type:=Int×Int×Bool×T31
abbrev T3b:Type:=Int×LLI×Int×Int×LI×T2H
abbrev T3c:Type:=LDIn×LI×LLI×T32
abbrev T3d:Type:=LDTh×Int×Int×Bool×T2W
abbrev T3e:Type:=Nat×LI×Int×LDCe×LDLn×LDTh×Int×Int×Int×Int×Int×Int×T0H
abbrev T3f:Type:=LDIn×LI×LLI×LI×Int×LLCn×LDTs×T2G
abbrev T3g:Type:=LDIn×LI×LLI×LI×Int×LLCn×LDTs×Unit×Int×Unit×Unit×Unit×LI×Int×LDCe×LDLn×Unit×Unit
abbrev T3h:Type:=Int×Int×LDCn×T36
abbrev T3i:Type:=Int×Int×LI×Int×Int×Int×Int×Int×Int×Int×Int×Int×Int×Int×T0t
abbrev T3j:Type:=LDIn×LI×LLI×LI×Int×LDCe×LDLn×LDTh×LI×LI×LLI×LLCn×LDOp×LDOu×LI×LLI×LDEn×LI×Unit
abbrev T3k:Type:=LDTh×Int×Int×T39
abbrev T3l:Type:=Int×Int×Int×Int×Int×Int×LDCn×LDCn×Int×Int×Int×Int×LDCn×Int×T0V
abbrev T3m:Type:=Int×Int×T3g
abbrev T3n:Type:=LDIn×LI×LLI×LI×Int×LDCe×LDLn×LDTh×LI×LI×LLI×LLCn×LDOp×LDOu×LI×LLI×LDEn×LI×LI×Unit
abbrev T3o:Type:=Nat×Int×LI×Int×LDCe×LDLn×LDTh×LDIn×LI×LLI×T2e
abbrev T3p:Type:=Int×Bool×T3j
abbrev T3q:Type:=Int×ByteArray×Int×Int×T3c
abbrev T3r:Type:=Int×Int×Bool×T3g
abbrev T3s:Type:=LDTs×Int×Int×T3f
abbrev T3t:Type:=LLCn×T3m
abbrev T3u:Type:=Int×Int×Int×T3j
abbrev T3v:Type:=Int×Int×Int×T3n
abbrev T3w:Type:=Int×LLCn×Int×Int×LDCn×T3m
abbrev T3x:Type:=LDIn×LI×LLI×LI×Int×LDCe×LDLn×LDTh×LI×LI×LLI×LLCn×LDOp×LDOu×LI×LLI×LDEn×LI×T1F
abbrev T3y:Type:=LI×Int×LDCe×LDLn×LDTh×LDIn×LI×LLI×Int×Int×Int×Int×Int×Int×LDCn×LDCn×Int×Int×Int×Int×LDCn×T0u
abbrev T3z:Type:=Nat×Bool×LI×Int×LDCe×LDLn×LDTh×T3l
abbrev T3A:Type:=Nat×T3y
abbrev T3B:Type:=Unit×Unit×Unit×Unit×Unit×Unit×Int×Int×Int×Int×Unit×Int×Bool×LI×LI×LLI×LLCn×LDOp×LDOu×Int×Int×Int×Int×LDCn×T01
abbrev T3C:Type:=Unit×Unit×Unit×Unit×Unit×Unit×Int×Int×Int×Int×Unit×Int×Bool×LI×LI×LLI×LLCn×LDOp×LDOu×T1F
abbrev T3D:Type:=LI×Int×LDCe×LDLn×LDTh×LDIn×LI×LLI×T3l
abbrev T3E:Type:=LDIn×LI×LLI×LI×Int×LDCe×LDLn×LDTh×Unit×Unit×LLCn×LDTs×Int×LDCe×Int×Int×Int×Int×T2y
abbrev T3F:Type:=LDTh×Int×Int×T3x
abbrev T3G:Type:=Nat×LDCn×Int×Int×T3D
abbrev T3H:Type:=Nat×LDCn×Int×Int×Bool×T3D
abbrev T3I:Type:=LDIn×LI×LLI×LI×Int×LLCn×LDTs×Unit×Int×Unit×Unit×Unit×LI×Int×LDCe×LDLn×LDTh×Int×Int×Int×Int×Int×Int×Int×LDCn×T24
abbrev T3J:Type:=LI×Int×Unit×Unit×Unit×Unit×Int×Unit×Unit×Unit×LDIn×LI×LLI×LI×Int×LDCe×LDLn×LDTh×LI×LI×LLI×LLCn×LDOp×LDOu×LI×LLI×LDEn×LI×T17
abbrev T3K:Type:=LDTh×Int×Int×LDCe×Int×Int×T3E
abbrev T3L:Type:=LI×LI×LLI×LLCn×LDOp×LDOu×Int×Int×Int×Int×Int×Int×LDCn×LDCn×Unit×Unit×Unit×Unit×Unit×Unit×Int×Int×Int×Int×Unit×Int×Bool×LI×LI×LLI×LLCn×LDOp×LDOu×LI×Unit
abbrev T3M:Type:=Int×Bool×LDIn×LI×LLI×LI×Int×LDCe×LDLn×LDTh×LI×LI×LLI×LLCn×LDOp×LDOu×LI×LLI×LDEn×LI×Int×Int×Int×Int×Int×Int×LDCn×LDCn×T1F
abbrev T3N:Type:=LDTh×Int×Int×LDCe×Int×Int×Bool×T3E
abbrev T3O:Type:=LI×Int×Unit×Unit×Unit×Unit×Int×Unit×Unit×Unit×LDIn×LI×LLI×LI×Int×LDCe×LDLn×LDTh×LI×LI×LLI×LLCn×LDOp×LDOu×LI×LLI×LDEn×LI×LI×Int×LDCe×LDLn×LDTh×T0b
abbrev T3P:Type:=Unit×Unit×Unit×Unit×Int×Unit×Unit×Unit×Unit×Unit×Unit×Unit×Unit×Unit×Unit×Unit×Unit×Unit×T3j
abbrev T3Q:Type:=Unit×Unit×Unit×Unit×Int×Unit×Unit×Unit×Unit×Unit×Unit×Unit×Unit×Unit×Unit×Unit×Unit×Unit×LDIn×LI×LLI×LI×Int×LDCe×LDLn×LDTh×LI×LI×LLI×LLCn×LDOp×LDOu×LI×LLI×Unit×LI×Unit
abbrev T3R:Type:=Int×Int×T3O
abbrev T3S:Type:=Int×T3P
abbrev T3T:Type:=Int×T3Q
abbrev T3U:Type:=LDCn×Int×Int×T3L
abbrev T3V:Type:=LDIn×LI×LLI×Unit×Int×Unit×Unit×Unit×Int×Int×Int×Int×Int×Int×Unit×Unit×LI×Int×LDCe×LDLn×LDTh×Int×LDCe×Int×Int×Int×Int×T2z
abbrev T3W:Type:=LDIn×LI×LLI×Unit×Int×Unit×Unit×Unit×Int×Int×Int×Int×Int×Int×Unit×Unit×LI×Int×LDCe×LDLn×LDTh×Int×LDCe×Int×Int×Int×Int×Int×Int×Int×Int×Int×Int×Int×Int×LDCn×Unit×Unit
abbrev T3X:Type:=Bool×T3W
abbrev T3Y:Type:=Int×Int×Bool×T3O
abbrev T3Z:Type:=Int×T3S
abbrev T40:Type:=LI×T3S
abbrev T41:Type:=Int×Int×T3V
abbrev T42:Type:=Int×Int×T3W
abbrev T43:Type:=Int×T40
abbrev T44:Type:=LDTs×Int×Int×LDCn×Int×Int×T3I
abbrev T45:Type:=Int×Int×Bool×T3V
abbrev T46:Type:=Int×Int×Int×T3R
noncomputable abbrev ap1{A0 D R:Type}(f:A0→R)(h:A0×D):R:=f h.1
noncomputable abbrev ap2{A0 A1 D R:Type}(f:A0→A1→R)(h:A0×A1×D):R:=f h.1 h.2.1
noncomputable abbrev ap3{A0 A1 A2 D R:Type}(f:A0→A1→A2→R)(h:A0×A1×A2×D):R:=f h.1 h.2.1 h.2.2.1
noncomputable abbrev ap4{A0 A1 A2 A3 D R:Type}(f:A0→A1→A2→A3→R)(h:A0×A1×A2×A3×D):R:=f h.1 h.2.1 h.2.2.1 h.2.2.2.1
noncomputable abbrev ap5{A0 A1 A2 A3 A4 D R:Type}(f:A0→A1→A2→A3→A4→R)(h:A0×A1×A2×A3×A4×D):R:=f h.1 h.2.1 h.2.2.1 h.2.2.2.1 h.2.2.2.2.1
noncomputable abbrev ap6{A0 A1 A2 A3 A4 A5 D R:Type}(f:A0→A1→A2→A3→A4→A5→R)(h:A0×A1×A2×A3×A4×A5×D):R:=f h.1 h.2.1 h.2.2.1 h.2.2.2.1 h.2.2.2.2.1 h.2.2.2.2.2.1
noncomputable abbrev ap7{A0 A1 A2 A3 A4 A5 A6 D R:Type}(f:A0→A1→A2→A3→A4→A5→A6→R)(h:A0×A1×A2×A3×A4×A5×A6×D):R:=f h.1 h.2.1 h.2.2.1 h.2.2.2.1 h.2.2.2.2.1 h.2.2.2.2.2.1 h.2.2.2.2.2.2.1
noncomputable abbrev ap8{A0 A1 A2 A3 A4 A5 A6 A7 D R:Type}(f:A0→A1→A2→A3→A4→A5→A6→A7→R)(h:A0×A1×A2×A3×A4×A5×A6×A7×D):R:=f h.1 h.2.1 h.2.2.1 h.2.2.2.1 h.2.2.2.2.1 h.2.2.2.2.2.1 h.2.2.2.2.2.2.1 h.2.2.2.2.2.2.2.1
noncomputable abbrev ap9{A0 A1 A2 A3 A4 A5 A6 A7 A8 D R:Type}(f:A0→A1→A2→A3→A4→A5→A6→A7→A8→R)(h:A0×A1×A2×A3×A4×A5×A6×A7×A8×D):R:=f h.1 h.2.1 h.2.2.1 h.2.2.2.1 h.2.2.2.2.1 h.2.2.2.2.2.1 h.2.2.2.2.2.2.1 h.2.2.2.2.2.2.2.1 h.2.2.2.2.2.2.2.2.1
noncomputable abbrev ap10{A0 A1 A2 A3 A4 A5 A6 A7 A8 A9 D R:Type}(f:A0→A1→A2→A3→A4→A5→A6→A7→A8→A9→R)(h:A0×A1×A2×A3×A4×A5×A6×A7×A8×A9×D):R:=f h.1 h.2.1 h.2.2.1 h.2.2.2.1 h.2.2.2.2.1 h.2.2.2.2.2.1 h.2.2.2.2.2.2.1 h.2.2.2.2.2.2.2.1 h.2.2.2.2.2.2.2.2.1 h.2.2.2.2.2.2.2.2.2.1
noncomputable abbrev ap11{A0 A1 A2 A3 A4 A5 A6 A7 A8 A9 A10 D R:Type}(f:A0→A1→A2→A3→A4→A5→A6→A7→A8→A9→A10→R)(h:A0×A1×A2×A3×A4×A5×A6×A7×A8×A9×A10×D):R:=f h.1 h.2.1 h.2.2.1 h.2.2.2.1 h.2.2.2.2.1 h.2.2.2.2.2.1 h.2.2.2.2.2.2.1 h.2.2.2.2.2.2.2.1 h.2.2.2.2.2.2.2.2.1 h.2.2.2.2.2.2.2.2.2.1 h.2.2.2.2.2.2.2.2.2.2.1
noncomputable abbrev ap14{A0 A1 A2 A3 A4 A5 A6 A7 A8 A9 A10 A11 A12 A13 D R:Type}(f:A0→A1→A2→A3→A4→A5→A6→A7→A8→A9→A10→A11→A12→A13→R)(h:A0×A1×A2×A3×A4×A5×A6×A7×A8×A9×A10×A11×A12×A13×D):R:=f h.1 h.2.1 h.2.2.1 h.2.2.2.1 h.2.2.2.2.1 h.2.2.2.2.2.1 h.2.2.2.2.2.2.1 h.2.2.2.2.2.2.2.1 h.2.2.2.2.2.2.2.2.1 h.2.2.2.2.2.2.2.2.2.1 h.2.2.2.2.2.2.2.2.2.2.1 h.2.2.2.2.2.2.2.2.2.2.2.1 h.2.2.2.2.2.2.2.2.2.2.2.2.1 h.2.2.2.2.2.2.2.2.2.2.2.2.2.1
noncomputable abbrev ap16{A0 A1 A2 A3 A4 A5 A6 A7 A8 A9 A10 A11 A12 A13 A14 A15 D R:Type}(f:A0→A1→A2→A3→A4→A5→A6→A7→A8→A9→A10→A11→A12→A13→A14→A15→R)(h:A0×A1×A2×A3×A4×A5×A6×A7×A8×A9×A10×A11×A12×A13×A14×A15×D):R:=f h.1 h.2.1 h.2.2.1 h.2.2.2.1 h.2.2.2.2.1 h.2.2.2.2.2.1 h.2.2.2.2.2.2.1 h.2.2.2.2.2.2.2.1 h.2.2.2.2.2.2.2.2.1 h.2.2.2.2.2.2.2.2.2.1 h.2.2.2.2.2.2.2.2.2.2.1 h.2.2.2.2.2.2.2.2.2.2.2.1 h.2.2.2.2.2.2.2.2.2.2.2.2.1 h.2.2.2.2.2.2.2.2.2.2.2.2.2.1 h.2.2.2.2.2.2.2.2.2.2.2.2.2.2.1 h.2.2.2.2.2.2.2.2.2.2.2.2.2.2.2.1
noncomputable abbrev ap18{A0 A1 A2 A3 A4 A5 A6 A7 A8 A9 A10 A11 A12 A13 A14 A15 A16 A17 D R:Type}(f:A0→A1→A2→A3→A4→A5→A6→A7→A8→A9→A10→A11→A12→A13→A14→A15→A16→A17→R)(h:A0×A1×A2×A3×A4×A5×A6×A7×A8×A9×A10×A11×A12×A13×A14×A15×A16×A17×D):R:=f h.1 h.2.1 h.2.2.1 h.2.2.2.1 h.2.2.2.2.1 h.2.2.2.2.2.1 h.2.2.2.2.2.2.1 h.2.2.2.2.2.2.2.1 h.2.2.2.2.2.2.2.2.1 h.2.2.2.2.2.2.2.2.2.1 h.2.2.2.2.2.2.2.2.2.2.1 h.2.2.2.2.2.2.2.2.2.2.2.1 h.2.2.2.2.2.2.2.2.2.2.2.2.1 h.2.2.2.2.2.2.2.2.2.2.2.2.2.1 h.2.2.2.2.2.2.2.2.2.2.2.2.2.2.1 h.2.2.2.2.2.2.2.2.2.2.2.2.2.2.2.1 h.2.2.2.2.2.2.2.2.2.2.2.2.2.2.2.2.1 h.2.2.2.2.2.2.2.2.2.2.2.2.2.2.2.2.2.1
noncomputable abbrev ap19{A0 A1 A2 A3 A4 A5 A6 A7 A8 A9 A10 A11 A12 A13 A14 A15 A16 A17 A18 D R:Type}(f:A0→A1→A2→A3→A4→A5→A6→A7→A8→A9→A10→A11→A12→A13→A14→A15→A16→A17→A18→R)(h:A0×A1×A2×A3×A4×A5×A6×A7×A8×A9×A10×A11×A12×A13×A14×A15×A16×A17×A18×D):R:=f h.1 h.2.1 h.2.2.1 h.2.2.2.1 h.2.2.2.2.1 h.2.2.2.2.2.1 h.2.2.2.2.2.2.1 h.2.2.2.2.2.2.2.1 h.2.2.2.2.2.2.2.2.1 h.2.2.2.2.2.2.2.2.2.1 h.2.2.2.2.2.2.2.2.2.2.1 h.2.2.2.2.2.2.2.2.2.2.2.1 h.2.2.2.2.2.2.2.2.2.2.2.2.1 h.2.2.2.2.2.2.2.2.2.2.2.2.2.1 h.2.2.2.2.2.2.2.2.2.2.2.2.2.2.1 h.2.2.2.2.2.2.2.2.2.2.2.2.2.2.2.1 h.2.2.2.2.2.2.2.2.2.2.2.2.2.2.2.2.1 h.2.2.2.2.2.2.2.2.2.2.2.2.2.2.2.2.2.1 h.2.2.2.2.2.2.2.2.2.2.2.2.2.2.2.2.2.2.1
noncomputable abbrev ap20{A0 A1 A2 A3 A4 A5 A6 A7 A8 A9 A10 A11 A12 A13 A14 A15 A16 A17 A18 A19 D R:Type}(f:A0→A1→A2→A3→A4→A5→A6→A7→A8→A9→A10→A11→A12→A13→A14→A15→A16→A17→A18→A19→R)(h:A0×A1×A2×A3×A4×A5×A6×A7×A8×A9×A10×A11×A12×A13×A14×A15×A16×A17×A18×A19×D):R:=f h.1 h.2.1 h.2.2.1 h.2.2.2.1 h.2.2.2.2.1 h.2.2.2.2.2.1 h.2.2.2.2.2.2.1 h.2.2.2.2.2.2.2.1 h.2.2.2.2.2.2.2.2.1 h.2.2.2.2.2.2.2.2.2.1 h.2.2.2.2.2.2.2.2.2.2.1 h.2.2.2.2.2.2.2.2.2.2.2.1 h.2.2.2.2.2.2.2.2.2.2.2.2.1 h.2.2.2.2.2.2.2.2.2.2.2.2.2.1 h.2.2.2.2.2.2.2.2.2.2.2.2.2.2.1 h.2.2.2.2.2.2.2.2.2.2.2.2.2.2.2.1 h.2.2.2.2.2.2.2.2.2.2.2.2.2.2.2.2.1 h.2.2.2.2.2.2.2.2.2.2.2.2.2.2.2.2.2.1 h.2.2.2.2.2.2.2.2.2.2.2.2.2.2.2.2.2.2.1 h.2.2.2.2.2.2.2.2.2.2.2.2.2.2.2.2.2.2.2.1
noncomputable abbrev ap21{A0 A1 A2 A3 A4 A5 A6 A7 A8 A9 A10 A11 A12 A13 A14 A15 A16 A17 A18 A19 A20 D R:Type}(f:A0→A1→A2→A3→A4→A5→A6→A7→A8→A9→A10→A11→A12→A13→A14→A15→A16→A17→A18→A19→A20→R)(h:A0×A1×A2×A3×A4×A5×A6×A7×A8×A9×A10×A11×A12×A13×A14×A15×A16×A17×A18×A19×A20×D):R:=f h.1 h.2.1 h.2.2.1 h.2.2.2.1 h.2.2.2.2.1 h.2.2.2.2.2.1 h.2.2.2.2.2.2.1 h.2.2.2.2.2.2.2.1 h.2.2.2.2.2.2.2.2.1 h.2.2.2.2.2.2.2.2.2.1 h.2.2.2.2.2.2.2.2.2.2.1 h.2.2.2.2.2.2.2.2.2.2.2.1 h.2.2.2.2.2.2.2.2.2.2.2.2.1 h.2.2.2.2.2.2.2.2.2.2.2.2.2.1 h.2.2.2.2.2.2.2.2.2.2.2.2.2.2.1 h.2.2.2.2.2.2.2.2.2.2.2.2.2.2.2.1 h.2.2.2.2.2.2.2.2.2.2.2.2.2.2.2.2.1 h.2.2.2.2.2.2.2.2.2.2.2.2.2.2.2.2.2.1 h.2.2.2.2.2.2.2.2.2.2.2.2.2.2.2.2.2.2.1 h.2.2.2.2.2.2.2.2.2.2.2.2.2.2.2.2.2.2.2.1 h.2.2.2.2.2.2.2.2.2.2.2.2.2.2.2.2.2.2.2.2.1
noncomputable abbrev ap23{A0 A1 A2 A3 A4 A5 A6 A7 A8 A9 A10 A11 A12 A13 A14 A15 A16 A17 A18 A19 A20 A21 A22 D R:Type}(f:A0→A1→A2→A3→A4→A5→A6→A7→A8→A9→A10→A11→A12→A13→A14→A15→A16→A17→A18→A19→A20→A21→A22→R)(h:A0×A1×A2×A3×A4×A5×A6×A7×A8×A9×A10×A11×A12×A13×A14×A15×A16×A17×A18×A19×A20×A21×A22×D):R:=f h.1 h.2.1 h.2.2.1 h.2.2.2.1 h.2.2.2.2.1 h.2.2.2.2.2.1 h.2.2.2.2.2.2.1 h.2.2.2.2.2.2.2.1 h.2.2.2.2.2.2.2.2.1 h.2.2.2.2.2.2.2.2.2.1 h.2.2.2.2.2.2.2.2.2.2.1 h.2.2.2.2.2.2.2.2.2.2.2.1 h.2.2.2.2.2.2.2.2.2.2.2.2.1 h.2.2.2.2.2.2.2.2.2.2.2.2.2.1 h.2.2.2.2.2.2.2.2.2.2.2.2.2.2.1 h.2.2.2.2.2.2.2.2.2.2.2.2.2.2.2.1 h.2.2.2.2.2.2.2.2.2.2.2.2.2.2.2.2.1 h.2.2.2.2.2.2.2.2.2.2.2.2.2.2.2.2.2.1 h.2.2.2.2.2.2.2.2.2.2.2.2.2.2.2.2.2.2.1 h.2.2.2.2.2.2.2.2.2.2.2.2.2.2.2.2.2.2.2.1 h.2.2.2.2.2.2.2.2.2.2.2.2.2.2.2.2.2.2.2.2.1 h.2.2.2.2.2.2.2.2.2.2.2.2.2.2.2.2.2.2.2.2.2.1 h.2.2.2.2.2.2.2.2.2.2.2.2.2.2.2.2.2.2.2.2.2.2.1
noncomputable abbrev ap26{A0 A1 A2 A3 A4 A5 A6 A7 A8 A9 A10 A11 A12 A13 A14 A15 A16 A17 A18 A19 A20 A21 A22 A23 A24 A25 D R:Type}(f:A0→A1→A2→A3→A4→A5→A6→A7→A8→A9→A10→A11→A12→A13→A14→A15→A16→A17→A18→A19→A20→A21→A22→A23→A24→A25→R)(h:A0×A1×A2×A3×A4×A5×A6×A7×A8×A9×A10×A11×A12×A13×A14×A15×A16×A17×A18×A19×A20×A21×A22×A23×A24×A25×D):R:=f h.1 h.2.1 h.2.2.1 h.2.2.2.1 h.2.2.2.2.1 h.2.2.2.2.2.1 h.2.2.2.2.2.2.1 h.2.2.2.2.2.2.2.1 h.2.2.2.2.2.2.2.2.1 h.2.2.2.2.2.2.2.2.2.1 h.2.2.2.2.2.2.2.2.2.2.1 h.2.2.2.2.2.2.2.2.2.2.2.1 h.2.2.2.2.2.2.2.2.2.2.2.2.1 h.2.2.2.2.2.2.2.2.2.2.2.2.2.1 h.2.2.2.2.2.2.2.2.2.2.2.2.2.2.1 h.2.2.2.2.2.2.2.2.2.2.2.2.2.2.2.1 h.2.2.2.2.2.2.2.2.2.2.2.2.2.2.2.2.1 h.2.2.2.2.2.2.2.2.2.2.2.2.2.2.2.2.2.1 h.2.2.2.2.2.2.2.2.2.2.2.2.2.2.2.2.2.2.1 h.2.2.2.2.2.2.2.2.2.2.2.2.2.2.2.2.2.2.2.1 h.2.2.2.2.2.2.2.2.2.2.2.2.2.2.2.2.2.2.2.2.1 h.2.2.2.2.2.2.2.2.2.2.2.2.2.2.2.2.2.2.2.2.2.1 h.2.2.2.2.2.2.2.2.2.2.2.2.2.2.2.2.2.2.2.2.2.2.1 h.2.2.2.2.2.2.2.2.2.2.2.2.2.2.2.2.2.2.2.2.2.2.2.1 h.2.2.2.2.2.2.2.2.2.2.2.2.2.2.2.2.2.2.2.2.2.2.2.2.1 h.2.2.2.2.2.2.2.2.2.2.2.2.2.2.2.2.2.2.2.2.2.2.2.2.2.1
theorem ls{n:Nat}(C:X.Cfg)(hT:Kt E0 TT noB n C.TB){c:Ctr}(hE:C.E=E0:=by rfl)(h1:(TT c.f).isSome=true:=by kernel_rfl)(hg:∀h,X.runT dP C () ((TT c.f).getD TL) c.outs (kn c.ins _ h).1 (wD c.pts [] (kn c.ins _ h).2).1=c.g h:=by intro h;kernel_rfl):Lk (n+1) c:=S9 (n:=n) (C:=C) hE hT (Ti h1) hg
abbrev Uaa(t:Nat):Nat×Sh:=sP t I64
abbrev Xaa(t:Nat):Nat×Sh:=sP t .bool
abbrev Zaa(t r:Nat):Nat×Sh:=(t,.pk ⟨r,0,[]⟩ [0,0])
abbrev uaa(t:CT):CT:=.row true t
abbrev yaa(t:CT):CT:=.row false t
abbrev zaa(t:Nat):Nat×Sh:=pP t (2*t+2)
abbrev uab:List Sh:=uL [fk,RI,(yaa RW)]
abbrev yab:List Sh:=uL [.bool]
abbrev zab:List Sh:=uL [(yaa d8),(yaa gi)]
abbrev Uab:List Sh:=uL [RI,CW]
abbrev Xab:List Sh:=uL [RI,I64]
abbrev Zab:List Sh:=uL [N1,N1]
abbrev uac:List Sh:=uL [CB,CW]
abbrev yac:List Sh:=uL [N1,CW,N1,N1,N1]
abbrev zac:List Sh:=uL [RI,CW,fi,fT,gH]
abbrev Uac:List Sh:=uL [I64,I64]
abbrev Xac:List Sh:=uL [I64]
abbrev Zac:List Sh:=uL [RI,CW,(uaa KCe),li,sJ]
abbrev uad:List Sh:=uL [I64,I64,I64,I64,I64,I64,d8,d8]
abbrev yad:List Sh:=uL [fk,RI,(yaa RW),RI,CW,fi,fT,gH,RW,RW,(yaa RW),(yaa d8),iP,ke,RI,(yaa RI),(uaa vC),(uaa I64)]
abbrev zad:List Sh:=uL [(yaa d8),iP]
abbrev Uad:List Sh:=uL [I64,fi,I64,I64,I64,I64,I64,CW]
abbrev Xad:List Sh:=uL [(uaa CB)]
abbrev Zad:List Sh:=uL [I64,I64,I64,I64,I64]
abbrev uae:List Sh:=uL [fi,fT]
abbrev yae:List Sh:=uL [(uaa (uaa KCn)),(uaa yj)]
abbrev zae:List Sh:=uL [(uaa I64)]
abbrev Uae:List Sh:=uL [N1,N1,N1]
abbrev Xae:List Sh:=uL [CB,CW,I64,I64,N1,I64,.bool]
abbrev Zae:List Sh:=uL [(uaa I64),(uaa (uaa I64))]
abbrev uaf:List Sh:=uL [(uaa (uaa KCn)),(uaa KOp)]
abbrev yaf:List Sh:=uL [fk,RI,(yaa RW),RI,CW,fi,fT,gH,RW,RW,(yaa RW),(yaa d8),iP,ke,RI,(yaa RI),Kq,RI]
abbrev zaf:List Sh:=uL [RI,(yaa RI)]
abbrev Uaf:List Sh:=uL [CB,CW,I64,I64]
abbrev Xaf:List Sh:=uL [(uaa KCe),li]
abbrev Zaf:List Sh:=uL [CB,CW,I64,I64,d8,I64,.bool]
abbrev uag:List Sh:=uL [(uaa KCn)]
abbrev yag:List Sh:=uL [I64,I64,I64,I64,I64,I64,N1,N1]
abbrev zag:List Sh:=uL [(uaa d8)]
abbrev Uag:List Sh:=uL [.bool,.bool,.bool,.bool]
abbrev Xag:List Sh:=uL [RW,RW,(yaa RW),(yaa d8),iP,ke]
abbrev Zag:List Sh:=uL [(yaa CB),.bool]
abbrev uah:List Sh:=uL [I64,(uaa KCe),I64,I64,I64,I64,I64,CW]
abbrev yah:List Sh:=uL [N1,N1,N1,N1,CW,N1,N1,N1,N1,N1,N1,N1,N1,N1,N1,N1,N1,N1]
abbrev zah:List Sh:=uL [RI,CW,(uaa KCe),li,(uaa PU)]
abbrev Uah:List Sh:=uL [(uaa (uaa KCn))]
abbrev Xah:List Sh:=uL [I64,I64,I64,I64,I64,I64,CW,d8]
abbrev Zah:List Sh:=uL [N1,N1,N1,N1,N1,N1]
abbrev uai:List Sh:=uL [I64,I64,.bool]
abbrev yai:List Sh:=uL [(uaa KIn),RI,(uaa (uaa CW))]
abbrev zai:List Sh:=uL [fk,RI,(uaa (uaa CW))]
abbrev Uai:List Sh:=uL [(uaa (uaa CW))]
abbrev Xai:List Sh:=uL [CB,CW,I64]
abbrev Zai:List Sh:=uL [I64,I64,I64,I64,I64,I64,CW,(uaa KCn)]
abbrev uaj:List Sh:=uL [RI,CW,(uaa KCe),li,N1]
abbrev yaj:List Sh:=uL [(uaa Jl)]
abbrev zaj:List Sh:=uL [(uaa CW),(uaa CW),(uaa (uaa CW)),(uaa (uaa KCn)),(uaa KOp),(uaa Jl)]
abbrev Uaj:List Sh:=uL [I64,I64,I64,I64,I64,I64,(uaa KCn),N1]
abbrev Xaj:List Sh:=uL [I64,I64,I64,I64,I64,I64,(uaa KCn),(uaa KCn)]
abbrev Zaj:List Sh:=uL [I64,I64,I64]
abbrev uak:List Sh:=uL [(uaa CB),I64]
abbrev yak:List Sh:=uL [(uaa (.pair (yaa d8) (yaa gi)))]
abbrev zak:List Sh:=uL [(uaa (uaa KCn)),(uaa KOp),I64]
abbrev Uak:List Sh:=uL [RI,CW,fi,fT,sJ]
abbrev Xak:List Sh:=uL [RI,CW,(uaa KCe),li,sJ,.bool]
abbrev Zak:List Sh:=uL [(uaa (uaa KCn)),(uaa KOp),.bool]
abbrev ual:List Sh:=uL [CB,CW,I64,I64,(uaa KCn),I64,.bool]
abbrev yal:List Sh:=uL [RI,CW,fi,fT,gH,.bool]
abbrev zal:List Sh:=uL [fk,RI,(yaa RW),RI,CW,fi,fT,gH,RW,RW,(yaa RW),(yaa d8),iP,ke,RI,(yaa RI),(uaa vC)]
def i3(a0:Int) (a1:Int):Option (Int×Unit):=
bif (a1 != 0) then let x0:Int:=(Int.tmod a0 a1);
(bif decide (x0 < 0) then (let x1:Int:=(w64 (x0+a1));
some (x1,())) else
some (x0,()):Option (Int×Unit)).bind λ(x1,_)=>
some (x1,()) else none
def IN:X.Cfg:=⟨E0,[],[],[⟨2,0,qE,[(.normal,qS [Uaa 5] [])]⟩]⟩
def vA:Ctr:=⟨58,0,Uac,[],[⟨Xac,[.one],[]⟩],ap2 i3⟩
theorem AX:Lk 1 vA:=ls IN aN
def jk(a0:Int) (a1:Int):Option (Int×Unit):=
(i3 a0 a1).bind λ(x0,_)=>
some (x0,())
def Pq:X.Cfg:=⟨E0,[vA],[],[]⟩
def Fl:Ctr:=⟨21,1,Uac,[],[⟨Xac,[.one],[]⟩],ap2 jk⟩
theorem JV:Lk 2 Fl:=ls Pq (aC AX aN)
def dQ(a0:Int) (a1:List (Int)) (a2:Int):Option (T0j):=
let x0:=dN a1.length;
bif decide (a2>=x0) then (some (0,a1,a2,())) else
let x1:=w64 (a2+1);
let x2:=w64 (x1 - 1);
(d9 x2).bind λx3=>
(dM a1 x3).bind λx4=>
(jk x4 a0).bind λ(x5,_)=>
some (x5,a1,x1,())
def IS:X.Cfg:=⟨E0,[Fl],[],[]⟩
def gh:Ctr:=⟨28,2,[.ptr ⟨2,0,[]⟩ [0],shU I64],[(2,Xab)],[⟨Xac,[.one],[(2,Xab)]⟩],ap3 dQ⟩
theorem gO:Lk 3 gh:=ls IS (aC JV aN)
def sZ:T0D->Option (T0D⊕(Int×Bool×T0p)):=λ(v0,v1,v2,v3,_)=>
bif decide (v0 > 0) then (let x0:List (Int):=[6,12,32];
(dQ 3 v1 v2).bind λ(x1,x2,x3,_)=>
(d9 x1).bind λx4=>
(dM x0 x4).bind λx5=>
(dM x0 x4).bind λx6=>
(dQ x6 x2 x3).bind λ(x7,x8,x9,_)=>
let ac:=w64 (1+x7);
bif (dY 8 v3.length (List.length [ac])) then let ae:List (Int):=(List.append v3 [ac]);
let af:=w64 (v0 - 1);
some (.inl (af,x8,x9,ae,())) else none) else
some (.inr (v0,false,v1,v2,v3,()))
def pK(a0:List (Int)) (a1:Int):Option (LI×T08):=
(dQ 9 a0 a1).bind λ(x0,x1,x2,_)=>
let x3:=w64 (4+x0);
(dQ 4 x1 x2).bind λ(x4,x5,x6,_)=>
(dU sZ NN (x4,x5,x6,[x3],())).bind λ(x7,x8,x9,ac,ae,_)=>
some (ae,x9,ac,())
def Hi:X.Cfg:=⟨E0,[gh],[],[(lx 4 0 [zaa 0,Zaa 3 9,Uaa 4] [(2,Xab),(9,zae)] 12)]⟩
def zj:Ctr:=⟨115,3,[.ptr ⟨2,0,[]⟩ [0]],[(2,Xab)],[⟨zae,[.one],[(2,Xab)]⟩],ap2 pK⟩
theorem Gt:Lk 4 zj:=ls Hi (aC gO aN)
def jH(a0:List (Int)) (a1:Int):Option (T0j):=
(dQ 5 a0 a1).bind λ(x0,x1)=>
(bif (x0==0) then (some (x0,true,x1)) else
bif (x0==1) then (some (x0,true,x1)) else
some (x0,(x0==2),x1):Option (T0v)).bind λ(x3,x4,x5,x6,_)=>
bif x4 then ((dQ 8 x5 x6).bind λ(x7,x8,x9,_)=>
let ac:=wk .u16 x7;
some (ac,x8,x9,())) else
bif (x3==3) then ((dQ 3 x5 x6).bind λ(x7,x8,x9,_)=>
let ac:=w64 (65535 - x7);
let ae:=wk .u16 ac;
some (ae,x8,x9,())) else
(dQ 65536 x5 x6).bind λ(x7,x8,x9,_)=>
let ac:=wk .u16 x7;
some (ac,x8,x9,())
def IR:X.Cfg:=⟨E0,[gh],[],[⟨3,0,qE,[(.normal,qS [zaa 0,Uaa 4,Xaa 5] [(2,Xab)])]⟩]⟩
def o6:Ctr:=⟨81,4,[.ptr ⟨2,0,[]⟩ [0]],[(2,Xab)],[⟨uL [CW],[.one],[(2,Xab)]⟩],ap2 jH⟩
theorem rD:Lk 4 o6:=ls IR (aC gO aN)
def sY:T0D->Option (T0D⊕(Int×Bool×T0p)):=λ(v0,v1,v2,v3,_)=>
bif decide (v0 > 0) then ((jH v1 v2).bind λ(x0,x1,x2,_)=>
bif (dY 2 v3.length (List.length [x0])) then let x3:List (Int):=(List.append v3 [x0]);
let x4:=w64 (v0 - 1);
some (.inl (x4,x1,x2,x3,())) else none) else
some (.inr (v0,false,v1,v2,v3,()))
def gF(a0:Int) (a1:List (Int)) (a2:Int):Option (LI×T08):=
let x0:=w64 (a0+1);
(dQ x0 a1 a2).bind λ(x1,x2,x3,_)=>
(dU sY NN (x1,x2,x3,[],())).bind λ(x4,x5,x6,x7,x8,_)=>
some (x8,x6,x7,())
def Hh:X.Cfg:=⟨E0,[gh,o6],[],[(lx 4 0 [zaa 0,Zaa 5 13,Uaa 6] [(2,Xab),(13,uL [(uaa CW)])] 12)]⟩
def t6:Ctr:=⟨116,5,[.ptr ⟨2,0,[]⟩ [0],shU I64],[(2,Xab)],[⟨uL [(uaa CW)],[.one],[(2,Xab)]⟩],ap3 gF⟩
theorem yI:Lk 5 t6:=ls Hh (aC gO (aC rD aN))
def jD(a0:Int) (a1:Int):Option (T0Z):=
some (1,a0,0,0,a1,())
def Rv:X.Cfg:=⟨E0,[],[],[]⟩
def Jf:Ctr:=⟨118,6,Uac,[],[⟨Zad,[.agg 5],[]⟩],ap2 jD⟩
theorem Nm:Lk 1 Jf:=ls Rv aN
def i4(a0:Int):Option (T0Z):=
some (23,0,0,0,a0,())
def Po:X.Cfg:=⟨E0,[],[],[]⟩
def Fk:Ctr:=⟨119,7,Xac,[],[⟨Zad,[.agg 5],[]⟩],ap1 i4⟩
theorem JU:Lk 1 Fk:=ls Po aN
def nY(a0:Int) (a1:Int):Option (T0Z):=
some (2,a0,a1,0,0,())
def Pp:X.Cfg:=⟨E0,[],[],[]⟩
def Kj:Ctr:=⟨148,8,Uac,[],[⟨Zad,[.agg 5],[]⟩],ap2 nY⟩
theorem Ph:Lk 1 Kj:=ls Pp aN
def jB(a0:Int):Option (T0t):=
(bif (a0==1) then (some (a0,true,false,false,false,false,())) else
bif (a0==15) then (some (a0,true,false,false,false,false,())) else
bif (a0==19) then (some (a0,true,false,false,false,false,())) else
bif (a0==20) then (some (a0,true,false,false,false,false,())) else
some (a0,(a0==21),false,false,false,false,()):Option (Int×Bool×T0t)).bind λ(x0,x1,_)=>
bif x1 then (some (true,false,false,true,())) else
bif (x0==2) then (some (true,true,false,false,())) else
bif (x0==16) then (some (true,true,false,true,())) else
bif (x0==17) then (some (true,true,false,true,())) else
bif (x0==18) then (some (false,false,false,true,())) else
bif (x0==23) then (some (false,false,false,true,())) else
bif (x0==22) then (some (true,false,false,false,())) else
bif (x0==0) then (some (false,false,false,false,())) else
bif (x0==24) then (some (false,false,false,false,())) else
some (true,true,true,false,())
def G6:X.Cfg:=⟨E0,[],[],[⟨3,0,qE,[(.normal,qS [zaa 2,Uaa 3,Xaa 4] [(6,Uag)])]⟩]⟩
def tT:Ctr:=⟨142,9,Xac,[],[⟨Uag,[.agg 4],[]⟩],ap1 jB⟩
theorem yF:Lk 1 tT:=ls G6 aN
def hU(a0:Int):Option (Bool×Unit):=
bif (a0==18) then (some (true,())) else
bif (a0==19) then (some (true,())) else
bif (a0==20) then (some (true,())) else
some ((a0==21),())
def G7:X.Cfg:=⟨E0,[],[],[]⟩
def ld:Ctr:=⟨99,10,Xac,[],[⟨yab,[.one],[]⟩],ap1 hU⟩
theorem nk:Lk 1 ld:=ls G7 aN
def pL(a0:Int) (a1:Int) (a2:List (Int)) (a3:Int):Option (Int×Int×Int×T0B):=
(dQ 25 a2 a3).bind λ(x0,x1,x2,_)=>
(jB x0).bind λ(x3,x4)=>
(bif x3 then ((dQ 8 x1 x2).bind λ(x7,x8,x9,_)=>
some (a0,a1,x8,x9,0,0,0,0,0,x0,x7,0,0,0,x3,x4)) else
some (a0,a1,x1,x2,0,0,0,0,0,x0,0,0,0,0,x3,x4):Option (T3i)).bind λ(x7,x8,x9,ac,ae,af,ag,ah,ai,aj,ak,am,an,ap,aq,av,ax)=>
(bif av then ((dQ 8 x9 ac).bind λ(az,aA,aB,_)=>
some (x7,x8,aA,aB,ae,af,ag,ah,ai,aj,ak,az,an,ap,aq,av,ax)) else
some (x7,x8,x9,ac,ae,af,ag,ah,ai,aj,ak,am,an,ap,aq,av,ax):Option (T3i)).bind λ(az,aA,aB,aD,aE,aF,aG,aH,aI,aJ,aK,aL,aM,aO,aP,aQ,aR,aS,_)=>
(bif aR then ((dQ 8 aB aD).bind λ(aT,aU,aV,_)=>
some (az,aA,aU,aV,aE,aF,aG,aH,aI,aJ,aK,aL,aT,aO,aP,aQ,aR,aS,())) else
some (az,aA,aB,aD,aE,aF,aG,aH,aI,aJ,aK,aL,aM,aO,aP,aQ,aR,aS,()):Option (T3i)).bind λ(aT,aU,aV,aW,aY,aZ,ba,bc,bd,bf,bg,bh,bi,bj,bk,bl,bm,bn,_)=>
((hU bf).bind λ(bo,_)=>
bif bo then ((dQ aU aV aW).bind λ(bp,bq,bt,_)=>
some (bq,bt,aY,aZ,ba,bc,bd,bf,bg,bh,bi,bp,())) else
bif (bf==15) then ((dQ aT aV aW).bind λ(bp,bq,bt,_)=>
some (bq,bt,aY,aZ,ba,bc,bd,bf,bg,bh,bi,bp,())) else
bif (bf==23) then ((dQ 16 aV aW).bind λ(bp,bq,bt,_)=>
some (bq,bt,aY,aZ,ba,bc,bd,bf,bg,bh,bi,bp,())) else
bif bn then ((jH aV aW).bind λ(bp,bq,bt,_)=>
let bv:=wk .i64 bp;
some (bq,bt,aY,aZ,ba,bc,bd,bf,bg,bh,bi,bv,())) else
some (aV,aW,aY,aZ,ba,bc,bd,bf,bg,bh,bi,bj,()):Option (LI×Int×Int×T2e)).bind λ(bo,bp,bq,bt,bv,bx,bA,bB,bC,bD,bE,bF,_)=>
some (bB,bC,bD,bE,bF,bo,bp,())
def Hj:X.Cfg:=⟨E0,[gh,tT,ld,o6],[],[⟨3,0,qE,[(.normal,qS [zaa 0,Uaa 1,Uaa 2,zaa 6,zaa 7,zaa 8] [(2,Xab),(14,Zad),(16,Zad),(18,Uag)])]⟩,⟨5,1,qE,[(.normal,qS [zaa 0,Uaa 1,Uaa 2,zaa 6,zaa 7,zaa 8] [(2,Xab),(14,Zad),(16,Zad),(18,Uag)])]⟩,⟨7,2,qE,[(.normal,qS [zaa 0,Uaa 1,Uaa 2,zaa 6,zaa 7,zaa 8] [(2,Xab),(14,Zad),(16,Zad),(18,Uag)])]⟩,⟨9,3,qE,[(.normal,qS [zaa 0,zaa 6,zaa 7] [(2,Xab),(14,Zad),(16,Zad)])]⟩]⟩
def zk:Ctr:=⟨149,11,[.ptr ⟨2,0,[]⟩ [0],shU I64,shU I64],[(2,Xab)],[⟨Zad,[.agg 5],[(2,Xab)]⟩],ap4 pL⟩
theorem Gu:Lk 5 zk:=ls Hj (aC gO (aC yF (aC nk (aC rD aN))))
def ro(a0:List (Int)) (a1:Int) (a2:Int) (a3:List (Int)) (a4:Int):Option (LDIn×T08):=
let x0:=dN a0.length;
(dQ x0 a3 a4).bind λ(x1,x2,x3,_)=>
(d9 x1).bind λx4=>
(dM a0 x4).bind λx5=>
let x6:=w64 (x5+1);
let x7:=mmR false 5 x6;
(dQ x7 x2 x3).bind λ(x8,x9,ac,_)=>
(jD 2 x8).bind λ(ae,af,ag,ah,ai,_)=>
let aj:LDIn:=[(15,(1,(0,(0,x1)))),(ae,(af,(ag,(ah,ai))))];
(dQ 20 x9 ac).bind λ(ak,am,an,_)=>
bif (ak==0) then ((dQ 3 am an).bind λ(ap,aq,av,_)=>
let ax:=w64 (3+ap);
(jH aq av).bind λ(ay,az,aA,_)=>
let aB:=wk .i64 ay;
(jD ax aB).bind λ(aD,aE,aF,aG,aH,_)=>
let aI:LDIn:=[(aD,(aE,(aF,(aG,aH))))];
some (aI,az,aA,())) else
bif (ak==1) then (let ap:List (Int):=[3,4,5,10,13,14,11,9];
(dQ 8 am an).bind λ(aq,av,ax,_)=>
(d9 aq).bind λay=>
(dM ap ay).bind λaz=>
(dM ap ay).bind λaA=>
(dQ 3 av ax).bind λ(aB,aD,aE,_)=>
let aF:=w64 (3+aB);
(dQ 3 aD aE).bind λ(aG,aH,aI,_)=>
let aJ:=w64 (3+aG);
(dQ 3 aH aI).bind λ(aK,aL,aM,_)=>
let aO:=w64 (3+aK);
let aP:LDIn:=[(aA,(aF,(aJ,(aO,0))))];
some (aP,aL,aM,())) else
bif (ak==2) then (let ap:LDIn:=[(15,(6,(0,(0,x1))))];
some (ap,am,an,())) else
bif (ak==3) then ((dQ 5 am an).bind λ(ap,aq,av,_)=>
let ax:=w64 (3+ap);
(d9 x1).bind λay=>
(dM a0 ay).bind λaz=>
(dQ az aq av).bind λ(aA,aB,aD,_)=>
let aE:LDIn:=[(15,(6,(0,(0,x1)))),(17,(6,(ax,(0,aA))))];
some (aE,aB,aD,())) else
bif (ak==4) then ((dQ 5 am an).bind λ(ap,aq,av,_)=>
let ax:=w64 (3+ap);
(d9 x1).bind λay=>
(dM a0 ay).bind λaz=>
(dQ az aq av).bind λ(aA,aB,aD,_)=>
let aE:LDIn:=[(15,(6,(0,(0,x1)))),(17,(6,(ax,(0,aA))))];
some (aE,aB,aD,())) else
bif (ak==5) then ((dQ 4 am an).bind λ(ap,aq,av,_)=>
let ax:=w64 (3+ap);
(d9 x1).bind λay=>
(dM a0 ay).bind λaz=>
(dQ az aq av).bind λ(aA,aB,aD,_)=>
let aE:LDIn:=[(15,(6,(0,(0,x1)))),(16,(ax,(6,(0,aA))))];
some (aE,aB,aD,())) else
bif (ak==6) then ((dQ 4 am an).bind λ(ap,aq,av,_)=>
let ax:=w64 (3+ap);
(d9 x1).bind λay=>
(dM a0 ay).bind λaz=>
(dQ az aq av).bind λ(aA,aB,aD,_)=>
let aE:LDIn:=[(15,(6,(0,(0,x1)))),(16,(ax,(6,(0,aA))))];
some (aE,aB,aD,())) else
bif (ak==7) then ((dQ 3 am an).bind λ(ap,aq,av,_)=>
(jD 0 ap).bind λ(ax,ay,az,aA,aB,_)=>
let aD:LDIn:=[(ax,(ay,(az,(aA,aB))))];
bif (dY 40 aD.length aj.length) then let aE:LDIn:=(List.append aD aj);
(i4 13).bind λ(aF,aG,aH,aI,aJ,_)=>
let aK:LDIn:=[(aF,(aG,(aH,(aI,aJ))))];
bif (dY 40 aE.length aK.length) then let aL:LDIn:=(List.append aE aK);
some (aL,aq,av,()) else none else none) else
bif (ak==8) then ((dQ 3 am an).bind λ(ap,aq,av,_)=>
(jD 0 ap).bind λ(ax,ay,az,aA,aB,_)=>
let aD:LDIn:=[(ax,(ay,(az,(aA,aB))))];
bif (dY 40 aD.length aj.length) then let aE:LDIn:=(List.append aD aj);
(i4 13).bind λ(aF,aG,aH,aI,aJ,_)=>
let aK:LDIn:=[(aF,(aG,(aH,(aI,aJ))))];
bif (dY 40 aE.length aK.length) then let aL:LDIn:=(List.append aE aK);
some (aL,aq,av,()) else none else none) else
bif (ak==9) then ((dQ 3 am an).bind λ(ap,aq,av,_)=>
(jD 0 ap).bind λ(ax,ay,az,aA,aB,_)=>
let aD:LDIn:=[(ax,(ay,(az,(aA,aB))))];
bif (dY 40 aD.length aj.length) then let aE:LDIn:=(List.append aD aj);
(i4 14).bind λ(aF,aG,aH,aI,aJ,_)=>
(nY 3 0).bind λ(aK,aL,aM,aO,aP,_)=>
let aQ:LDIn:=[(aF,(aG,(aH,(aI,aJ)))),(aK,(aL,(aM,(aO,aP))))];
bif (dY 40 aE.length aQ.length) then let aR:LDIn:=(List.append aE aQ);
some (aR,aq,av,()) else none else none) else
bif (ak==10) then ((dQ 3 am an).bind λ(ap,aq,av,_)=>
(jD 0 ap).bind λ(ax,ay,az,aA,aB,_)=>
(dQ 4 aq av).bind λ(aD,aE,aF,_)=>
(jD 1 aD).bind λ(aG,aH,aI,aJ,aK,_)=>
(i4 3).bind λ(aL,aM,aO,aP,aQ,_)=>
(nY 7 0).bind λ(aR,aS,aT,aU,aV,_)=>
let aW:LDIn:=[(ax,(ay,(az,(aA,aB)))),(aG,(aH,(aI,(aJ,aK)))),(aL,(aM,(aO,(aP,aQ)))),(aR,(aS,(aT,(aU,aV))))];
some (aW,aE,aF,())) else
bif (ak==11) then ((nY 0 7).bind λ(ap,aq,av,ax,ay,_)=>
let az:LDIn:=[(ap,(aq,(av,(ax,ay))))];
bif (dY 40 az.length aj.length) then let aA:LDIn:=(List.append az aj);
let aB:List (Int):=[1,2];
(dQ 2 am an).bind λ(aD,aE,aF,_)=>
(d9 aD).bind λaG=>
(dM aB aG).bind λaH=>
(dM aB aG).bind λaI=>
(i4 aI).bind λ(aJ,aK,aL,aM,aO,_)=>
let aP:LDIn:=[(aJ,(aK,(aL,(aM,aO))))];
bif (dY 40 aA.length aP.length) then let aQ:LDIn:=(List.append aA aP);
some (aQ,aE,aF,()) else none else none) else
bif (ak==12) then ((nY 0 7).bind λ(ap,aq,av,ax,ay,_)=>
(i4 4).bind λ(az,aA,aB,aD,aE,_)=>
let aF:LDIn:=[(ap,(aq,(av,(ax,ay)))),(az,(aA,(aB,(aD,aE))))];
(nY 0 7).bind λ(aG,aH,aI,aJ,aK,_)=>
(dQ 4 am an).bind λ(aL,aM,aO,_)=>
(jD 1 aL).bind λ(aP,aQ,aR,aS,aT,_)=>
(i4 5).bind λ(aU,aV,aW,aY,aZ,_)=>
let ba:LDIn:=[(aG,(aH,(aI,(aJ,aK)))),(aP,(aQ,(aR,(aS,aT)))),(aU,(aV,(aW,(aY,aZ))))];
let bc:List LDIn:=[aF,ba];
(dQ 2 aM aO).bind λ(bd,bf)=>
(d9 bd).bind λbh=>
(dM bc bh).bind λbi=>
(dM bc bh).bind λbj=>
(dM bc bh).bind λbk=>
some (bk,bf)) else
bif (ak==13) then (let ap:List (Int):=[6,7,15];
(dQ 3 am an).bind λ(aq,av,ax,_)=>
(d9 aq).bind λay=>
(dM ap ay).bind λaz=>
(dM ap ay).bind λaA=>
(i4 aA).bind λ(aB,aD,aE,aF,aG,_)=>
(dQ 3 av ax).bind λ(aH,aI,aJ,_)=>
let aK:=w64 (3+aH);
(nY aK 0).bind λ(aL,aM,aO,aP,aQ,_)=>
let aR:LDIn:=[(aB,(aD,(aE,(aF,aG)))),(aL,(aM,(aO,(aP,aQ))))];
some (aR,aI,aJ,())) else
bif (ak==14) then ((dQ 3 am an).bind λ(ap,aq,av,_)=>
(jD 0 ap).bind λ(ax,ay,az,aA,aB,_)=>
let aD:List (Int):=[8,9];
(dQ 2 aq av).bind λ(aE,aF,aG,_)=>
(d9 aE).bind λaH=>
(dM aD aH).bind λaI=>
(dM aD aH).bind λaJ=>
(i4 aJ).bind λ(aK,aL,aM,aO,aP,_)=>
let aQ:LDIn:=[(ax,(ay,(az,(aA,aB)))),(aK,(aL,(aM,(aO,aP))))];
some (aQ,aF,aG,())) else
bif (ak==15) then ((dQ 3 am an).bind λ(ap,aq,av,_)=>
(jD 0 ap).bind λ(ax,ay,az,aA,aB,_)=>
let aD:List (Int):=[8,9];
(dQ 2 aq av).bind λ(aE,aF,aG,_)=>
(d9 aE).bind λaH=>
(dM aD aH).bind λaI=>
(dM aD aH).bind λaJ=>
(i4 aJ).bind λ(aK,aL,aM,aO,aP,_)=>
let aQ:LDIn:=[(ax,(ay,(az,(aA,aB)))),(aK,(aL,(aM,(aO,aP))))];
some (aQ,aF,aG,())) else
bif (ak==16) then ((dQ a1 am an).bind λ(ap,aq,av,_)=>
(jD 0 ap).bind λ(ax,ay,az,aA,aB,_)=>
(nY 1 3).bind λ(aD,aE,aF,aG,aH,_)=>
(i4 10).bind λ(aI,aJ,aK,aL,aM,_)=>
let aO:LDIn:=[(ax,(ay,(az,(aA,aB)))),(aD,(aE,(aF,(aG,aH)))),(aI,(aJ,(aK,(aL,aM))))];
some (aO,aq,av,())) else
bif (ak==17) then (let ap:List (Int):=[a1,5];
(dQ 2 am an).bind λ(aq,av,ax,_)=>
(d9 aq).bind λay=>
(dM ap ay).bind λaz=>
(dM ap ay).bind λaA=>
(dQ aA av ax).bind λ(aB,aD,aE,_)=>
(jD 0 aB).bind λ(aF,aG,aH,aI,aJ,_)=>
let aK:List (Int):=[12,11];
(dQ 2 aD aE).bind λ(aL,aM,aO,_)=>
(d9 aL).bind λaP=>
(dM aK aP).bind λaQ=>
(dM aK aP).bind λaR=>
(i4 aR).bind λ(aS,aT,aU,aV,aW,_)=>
let aY:LDIn:=[(aF,(aG,(aH,(aI,aJ)))),(aS,(aT,(aU,(aV,aW))))];
some (aY,aM,aO,())) else
bif (ak==18) then ((dQ 4 am an).bind λ(ap,aq,av,_)=>
let ax:=w64 (1+ap);
(jD 5 ax).bind λ(ay,az,aA,aB,aD,_)=>
(jD 4 1).bind λ(aE,aF,aG,aH,aI,_)=>
let aJ:=w64 (a2+2);
let aK:LDIn:=[(ay,(az,(aA,(aB,aD)))),(aE,(aF,(aG,(aH,aI)))),(4,(5,(5,(4,0)))),(20,(5,(0,(0,aJ))))];
some (aK,aq,av,())) else
let ap:=dN a0.length;
(pL ap a1 am an).bind λ(aq,av,ax,ay,az,aA,aB,_)=>
let aD:LDIn:=[(aq,(av,(ax,(ay,az))))];
some (aD,aA,aB,())
def IQ:X.Cfg:=⟨E0,[gh,Jf,o6,Fk,Kj,zk],[(156,(uaa KIn))],[]⟩
def BL:Ctr:=⟨117,12,[.ptr ⟨2,0,[]⟩ [0],shU RI,shU I64,shU I64],[(2,Xab)],[⟨uL [fk],[.one],[(2,Xab)]⟩],ap5 ro⟩
theorem Iy:Lk 6 BL:=ls IQ (aC gO (aC Nm (aC rD (aC JU (aC Ph (aC Gu aN))))))
def qq:T2B->Option (T2B⊕(Int×Int×Bool×T29)):=λ(v0,v1,v2,v3,v4,v5,v6,v7,v8,v9,_)=>
bif decide (v1 < v0) then ((d9 v1).bind λx0=>
(dM v8 x0).bind λx1=>
(dM v8 x0).bind λx2=>
(gF x2 v2 v3).bind λ(x3,x4,x5,_)=>
bif (dY 24 v9.length (List.length [x3])) then let x6:List LI:=(List.append v9 [x3]);
let x7:=w64 (v1+1);
some (.inl (v0,x7,x4,x5,v4,v5,v6,v7,v8,x6,())) else none) else
some (.inr (v0,v1,false,v2,v3,v4,v5,v6,v7,v8,v9,()))
def qp:T2k->Option (T2k⊕T2v):=λ(v0,v1,v2,v3,v4,v5,v6,v7,v8,_)=>
bif decide (v0 > 0) then ((let x0:Int:=(dN v6.length);
let x1:=w64 (x0+1);
let x2:=dN v6.length;
(ro v7 x1 x2 v1 v2).bind λ(x3,x4,x5,_)=>
let x6:=dN v6.length;
let x7:=dN x3.length;
let x8:=w64 (x6+x7);
bif decide (x8<=62) then (bif (dY 40 v6.length x3.length) then let x9:LDIn:=(List.append v6 x3);
some (v0,x4,x5,v3,v4,v5,x9,v7,v8,()) else none) else
some (v0,x4,x5,v3,v4,v5,v6,v7,v8,()):Option (T2k)).bind λ(x0,x1,x2,x3,x4,x5,x6,x7,x8,_)=>
let x9:=w64 (x0 - 1);
some (.inl (x9,x1,x2,x3,x4,x5,x6,x7,x8,()))) else
some (.inr (v0,false,v1,v2,v3,v4,v5,v6,v7,v8,()))
def iH:T2A->Option (T2A⊕(Int×T2v)):=λ(v0,v1,v2,v3,v4,v5,v6,v7,v8)=>
bif decide (v1 < v0) then (((d9 v1).bind λx0=>
(dM v7 x0).bind λx1=>
(hU x1.1).bind λ(x2,_)=>
bif x2 then ((d9 v1).bind λx3=>
(dM v7 x3).bind λx4=>
let x5:=dN v7.length;
bif decide (x4.2.2.2.2>=x5) then ((d9 v1).bind λx6=>
(dM v7 x6).bind λx7=>
none) else
some (v0,v1,v2,v3,v4,v5,v6,v7,v8)) else
some (v0,v1,v2,v3,v4,v5,v6,v7,v8):Option (T2A)).bind λ(x0,x1,x2,x3,x4,x5,x6,x7,x8)=>
let ac:=w64 (x1+1);
some (.inl (x0,ac,x2,x3,x4,x5,x6,x7,x8))) else
some (.inr (v0,v1,false,v2,v3,v4,v5,v6,v7,v8))
def mR(a0:List (Int)) (a1:Int):Option (LDIn×LI×LLI×T08):=
(pK a0 a1).bind λ(x0,x1,x2,_)=>
let x3:=dN x0.length;
(dU qq NN (x3,0,x1,x2,(),(),(),(),x0,[],())).bind λ(x4,x5,x6,x7,x8,x9,ac,ae,af,ag)=>
(dQ 12 x7 x8).bind λ(ai,aj,ak,_)=>
let am:=w64 (1+ai);
(dU qp NN (am,aj,ak,x9,ac,ae,[],ag)).bind λ(an,ap,aq,av,ax,ay,az,aA,aB)=>
((dQ 4 aq av).bind λ(aE,aF,aG,_)=>
bif (aE==0) then (let aH:Int:=(dN aA.length);
let aI:=w64 (aH+1);
(dQ aI aF aG).bind λ(aJ,aK,aL,_)=>
let aM:LDIn:=[(18,(0,(0,(0,aJ))))];
bif (dY 40 aA.length aM.length) then let aO:LDIn:=(List.append aA aM);
some (aK,aL,ax,ay,az,aO,aB) else none) else
bif (aE==1) then (let aH:LDIn:=[(24,(0,(0,(0,0))))];
bif (dY 40 aA.length aH.length) then let aI:LDIn:=(List.append aA aH);
some (aF,aG,ax,ay,az,aI,aB) else none) else
some (aF,aG,ax,ay,az,aA,aB):Option (T28)).bind λ(aE,aF,aG,aH,aI,aJ,aK,aL,_)=>
(dQ 9 aE aF).bind λ(aM,aO,aP,_)=>
(jD 0 aM).bind λ(aQ,aR,aS,aT,aU,_)=>
(i4 0).bind λ(aV,aW,aY,aZ,ba,_)=>
let bc:LDIn:=[(aQ,(aR,(aS,(aT,aU)))),(aV,(aW,(aY,(aZ,ba))))];
bif (dY 40 aJ.length bc.length) then let bd:LDIn:=(List.append aJ bc);
let bf:=dN bd.length;
bif decide (bf > 64) then (bif (iQ 0 64 bd.length) then let bg:LDIn:=(m8 bd 0 (Nat.sub 64 0));
let bh:=dN bg.length;
(dU iH NN (bh,0,aO,aP,aG,aH,aI,bg,aK,aL,())).bind λ(bi,bj,bk,bl,bm,bn,bo,bp,bq,bt,bv,_)=>
some (bq,bt,bv,bl,bm,()) else none) else
let bg:=dN bd.length;
(dU iH NN (bg,0,aO,aP,aG,aH,aI,bd,aK,aL,())).bind λ(bh,bi,bj,bk,bl,bm,bn,bo,bp,bq,bt,_)=>
some (bp,bq,bt,bk,bl,()) else none
def CE:X.Cfg:=⟨E0,[zj,t6,gh,BL,Jf,Fk,ld],[(24,(uaa CW)),(25,(uaa CW))],[(lx 4 0 [zaa 0,zaa 2,zaa 3,(13,.pk ⟨8,1,[]⟩ [0,0]),Uaa 14,Uaa 15] [(2,Xab),(6,Uae),(8,uL [N1,(uaa I64),(uaa (uaa CW))])] 16),⟨14,1,qE,[(.normal,qS [zaa 0,zaa 2,zaa 3,Uaa 6] [(2,Xab),(6,Uae),(8,yai)])]⟩,⟨11,2,qS [zaa 0,zaa 2,zaa 3,Uaa 6] [(2,Xab),(6,Uae),(8,yai)],[(.exit 2,qS [zaa 0,zaa 2,zaa 3,Uaa 6,Xaa 32] [(2,Xab),(6,Uae),(8,yai)])]⟩,⟨17,3,qE,[(.normal,qS [zaa 0,zaa 2,zaa 3] [(2,Xab),(6,Uae),(8,yai)])]⟩,⟨29,4,qE,[(.normal,qS [zaa 0,zaa 2,zaa 3,Uaa 101,Uaa 102] [(2,Xab),(6,Uae),(8,zai)])]⟩,⟨26,5,qS [zaa 0,zaa 2,zaa 3,Uaa 101,Uaa 102] [(2,Xab),(6,Uae),(8,zai)],[(.exit 5,qS [zaa 0,zaa 2,zaa 3,Uaa 101,Uaa 102,Xaa 103] [(2,Xab),(6,Uae),(8,zai)])]⟩]⟩
def u4:Ctr:=⟨73,13,[.ptr ⟨2,0,[]⟩ [0]],[(2,Xab)],[⟨zai,[.agg 3],[(2,Xab)]⟩],ap2 mR⟩
theorem Cg:Lk 7 u4:=ls CE (aC Gt (aC yI (aC gO (aC Iy (aC Nm (aC JU (aC nk aN)))))))
def nD:T0N->Option (T0N⊕((Bool×Unit)⊕(LI×T0L))):=λ(v0,v1,v2,v3,_)=>
bif decide (v3 < v2) then ((d9 v3).bind λx0=>
(dM v1 x0).bind λx1=>
bif decide (x1 < 1) then (some (.inr (.inl (false,())))) else
bif decide (x1 > 32) then (some (.inr (.inl (false,())))) else
let x2:=w64 (v3+1);
some (.inl (v0,v1,v2,x2,()))) else
some (.inr (.inr (v0,v1,v2,v3,false,())))
def fS(a0:List (Int)):Option (Bool×Unit):=
let x0:=dN a0.length;
(match dU nD NN (a0,a0,x0,0,()) with
| none=>none
| some (.inl (x1,_))=>
some (x1,())
| some (.inr (x1,_))=>
let x6:=dN x1.length;
bif decide (x6>=1) then (let x7:Int:=(dN x1.length);
some ((decide (x7<=4)),())) else
some (false,()))
def EX:X.Cfg:=⟨E0,[],[],[⟨3,0,qS [sP 0 RI,sP 5 RI,Uaa 6,Uaa 7] [],[(.ret,qS [Xaa 2] []),(.exit 0,qS [sP 0 RI,sP 5 RI,Uaa 6,Uaa 7,Xaa 8] [])]⟩]⟩
def l9:Ctr:=⟨40,14,uL [RI],[],[⟨yab,[.one],[]⟩],ap1 fS⟩
theorem oc:Lk 1 l9:=ls EX aN
def sX:T2C->Option (T2C⊕(LI×Int×Int×Int×Int×Int×Bool×T0P)):=λ(v0,v1,v2,v3,v4,v5,v6,v7,v8,v9,_)=>
bif decide (v5 < v4) then (let x0:Int:=(w64 (v5+v1));
bif (v2 != 0) then let x1:Int:=(Int.tmod x0 v2);
(d9 x1).bind λx2=>
(dM v8 x2).bind λx3=>
(dM v8 x2).bind λx4=>
let x5:=List.modify v8 x2 λe=>v3;
(d9 x1).bind λx6=>
(dM v0 x6).bind λx7=>
let x8:=w64 (x7+1);
let x9:=w64 (50*v2);
bif (x9 != 0) then let ac:Int:=(w64 (Int.tdiv v1 x9));
let ae:=Int.tmod ac 40;
let af:=w64 (x8+ae);
let ag:=w64 (v3+af);
let ah:=w64 (v5+1);
some (.inl (v0,v1,v2,ag,v4,ah,v6,v7,x5,v9,())) else none else none) else
some (.inr (v0,v1,v2,v3,v4,v5,false,v6,v7,v8,v9,()))
def pH(a0:List (Int)) (a1:Int):Option (T0o):=
((fS a0).bind λ(x0,_)=>
bif (!x0) then (some (a0,a1,true,(),0,())) else
bif decide (a1 < 0) then (some (a0,a1,true,(),0,())) else
some (a0,a1,(decide (a1 > 1073741824)),(),0,()):Option (LI×Int×Bool×Unit×Int×Unit)).bind λ(x0,x1,x2,x3,x4,_)=>
bif x2 then (some ([],0,1,())) else
let x5:=dN x0.length;
(d9 x5).bind λx6=>
(d9 x5).bind λx7=>
bif (uy x6 x7 1) then let x8:List (Int):=(List.replicate x6 0);
let x9:=w64 (40503*x1);
let ac:=wk .u16 x9;
bif (x5 != 0) then let ae:Int:=(w64 (Int.tdiv x1 x5));
let af:=Int.tmod ae 50;
let ag:=w64 (1+af);
(dU sX NN (x0,x1,x5,ag,x5,0,x3,x4,x8,ac,())).bind λ(ah,ai,aj,ak,am,an,ap,aq,av,ax,ay,_)=>
some (ax,ay,0,()) else none else none
def Hd:X.Cfg:=⟨E0,[l9],[],[⟨2,0,qE,[(.normal,(qS [sP 0 RI,Uaa 1,zaa 4,Xaa 21] [(10,uL [N1,CW])]))]⟩,(lx 9 1 [sP 0 RI,Uaa 1,zaa 4,Uaa 6,zaa 7,Uaa 8,Uaa 36,Uaa 37] [(10,uL [N1,CW]),(16,uL [(uaa I64),CW])] 38)]⟩
def zg:Ctr:=⟨20,15,Xab,[],[⟨uL [(uaa I64),CW,I64],[.agg 2,.one],[]⟩],ap2 pH⟩
theorem Gq:Lk 2 zg:=ls Hd (aC oc aN)
def n5(a0:List (Int)) (a1:List (Int)) (a2:Int):Option (LI×T0j):=
(dQ 1048576 a1 a2).bind λ(x0,x1)=>
(pH a0 x0).bind λ(x3,x4,x5,_)=>
some (x3,x4,x1)
def E6:X.Cfg:=⟨E0,[gh,zg],[],[]⟩
def xf:Ctr:=⟨75,16,[.ptr ⟨2,0,[]⟩ [0],shU RI],[(2,Xab)],[⟨uL [(uaa I64),CW],[.agg 2],[(2,Xab)]⟩],ap3 n5⟩
theorem Ek:Lk 4 xf:=ls E6 (aC gO (aC Gq aN))
def iS(a0:Int) (a1:Int) (a2:Int) (a3:Int):Option (Bool×Unit):=
bif (a0==0) then (bif (a2==0) then (some ((a3==0),())) else
some (false,())) else
bif (a0==2) then (bif (a2==0) then (some ((a3==0),())) else
some (false,())) else
bif (a0==1) then (bif (a2==(-1)) then (bif (a1==0) then (bif decide (a3>=0) then (some ((decide (a3<=65535)),())) else
some (false,())) else
some (false,())) else
bif (a1==0) then (bif decide (a2>=0) then (bif decide (a2 < 4) then (bif decide (a3>=0) then (some ((decide (a3 < 32)),())) else
some (false,())) else
some (false,())) else
some (false,())) else
some (false,())) else
some (false,())
def GV:X.Cfg:=⟨E0,[],[],[]⟩
def tP:Ctr:=⟨94,17,[.agg Uaf],[],[⟨yab,[.one],[]⟩],ap4 iS⟩
theorem yC:Lk 1 tP:=ls GV aN
def gY:LDCn×Int×T0l->Option ((LDCn×Int×T0l)⊕((Bool×Unit)⊕(LDCn×Int×T0F))):=λ(v0,v1,v2,v3,v4,_)=>
bif decide (v4 < v3) then ((d9 v4).bind λx0=>
(dM v2 x0).bind λx1=>
(iS x1.1 x1.2.1 x1.2.2.1 x1.2.2.2).bind λ(x2,_)=>
bif (!x2) then (some (.inr (.inl (false,())))) else
let x3:=w64 (v4+1);
some (.inl (v0,v1,v2,v3,x3,()))) else
some (.inr (.inr (v0,v1,v2,v3,v4,false,())))
def ff(a0:LDCn) (a1:Int):Option (Bool×Unit):=
let x0:=dN a0.length;
(match dU gY NN (a0,a1,a0,x0,0,()) with
| none=>none
| some (.inl (x1,_))=>
some (x1,())
| some (.inr (x1,x2,_))=>
let x7:=dN x1.length;
some ((decide (x7<=x2)),()))
def EH:X.Cfg:=⟨E0,[tP],[],[⟨3,0,qS [sP 0 d8,Uaa 1,sP 7 d8,Uaa 8,Uaa 9] [],[(.ret,qS [Xaa 4] []),(.exit 0,qS [sP 0 d8,Uaa 1,sP 7 d8,Uaa 8,Uaa 9,Xaa 10] [])]⟩]⟩
def gD:Ctr:=⟨39,18,uL [d8,I64],[],[⟨yab,[.one],[]⟩],ap2 ff⟩
theorem ic:Lk 2 gD:=ls EH (aC yC aN)
def kC:T18->Option (T18⊕((Bool×Unit)⊕(LLCn×T0Y))):=λ(v0,v1,v2,v3)=>
bif decide (v2 < v1) then ((d9 v2).bind λx0=>
(dM v0 x0).bind λx1=>
(ff x1 64).bind λ(x2,_)=>
bif (!x2) then (some (.inr (.inl (false,())))) else
let x3:=w64 (v2+1);
some (.inl (v0,v1,x3,v3))) else
some (.inr (.inr (v0,v1,v2,false,v3)))
def nA:LDOp×T0C->Option ((LDOp×T0C)⊕((Bool×Unit)⊕(LDOp×T0Y))):=λ(v0,v1,v2,v3,v4,_)=>
bif decide (v2 < v1) then ((d9 v2).bind λx0=>
(dM v0 x0).bind λx1=>
(bif (x1.1==(-1)) then (bif (x1.2.1 != 0) then (some (v0,v1,v2,true,v3,v4,x1.1,x1.2.1,x1.2.2,())) else
bif x1.2.2 then (some (v0,v1,v2,true,v3,v4,x1.1,x1.2.1,x1.2.2,())) else
bif (decide (x1.1 < (-1))) then (some (v0,v1,v2,true,v3,v4,x1.1,x1.2.1,x1.2.2,())) else
let x2:=dN v3.length;
bif decide (x1.1>=x2) then (some (v0,v1,v2,true,v3,v4,x1.1,x1.2.1,x1.2.2,())) else
bif decide (x1.1>=0) then (bif decide (x1.2.1 < 0) then (some (v0,v1,v2,true,v3,v4,x1.1,x1.2.1,x1.2.2,())) else
(d9 x1.1).bind λx3=>
(dM v3 x3).bind λx4=>
let x5:=dN x4.length;
some (v0,v1,v2,(decide (x1.2.1 > x5)),v3,v4,x1.1,x1.2.1,x1.2.2,())) else
some (v0,v1,v2,false,v3,v4,x1.1,x1.2.1,x1.2.2,())) else
bif (decide (x1.1 < (-1))) then (some (v0,v1,v2,true,v3,v4,x1.1,x1.2.1,x1.2.2,())) else
let x2:=dN v3.length;
bif decide (x1.1>=x2) then (some (v0,v1,v2,true,v3,v4,x1.1,x1.2.1,x1.2.2,())) else
bif decide (x1.1>=0) then (bif decide (x1.2.1 < 0) then (some (v0,v1,v2,true,v3,v4,x1.1,x1.2.1,x1.2.2,())) else
(d9 x1.1).bind λx3=>
(dM v3 x3).bind λx4=>
let x5:=dN x4.length;
some (v0,v1,v2,(decide (x1.2.1 > x5)),v3,v4,x1.1,x1.2.1,x1.2.2,())) else
some (v0,v1,v2,false,v3,v4,x1.1,x1.2.1,x1.2.2,()):Option (LDOp×Int×Int×Bool×LLCn×LDOp×T0e)).bind λ(x2,x3,x4,x5,x6,x7,_)=>
bif x5 then (some (.inr (.inl (false,())))) else
let ae:=w64 (x4+1);
some (.inl (x2,x3,ae,x6,x7,()))) else
some (.inr (.inr (v0,v1,v2,false,v3,v4,())))
def lw(a0:List LDCn) (a1:LDOp):Option (Bool×Unit):=
let x0:=dN a0.length;
bif decide (x0 > 4) then (some (false,())) else
let x1:=dN a1.length;
bif (x1 != 8) then (some (false,())) else
let x2:=dN a0.length;
(match dU kC NN (a0,x2,0,a0,a1,()) with
| none=>none
| some (.inl (x3,_))=>
some (x3,())
| some (.inr (x3,x4,x5,x6,x7,x8,_))=>
let x9:=dN x8.length;
(match dU nA NN (x8,x9,0,x7,x8,()) with
| none=>none
| some (.inl (ac,_))=>
some (ac,())
| some (.inr (ac,_))=>
some (true,())))
def Ex:X.Cfg:=⟨E0,[gD],[],[⟨6,0,qS [zaa 1,sP 18 (yaa d8),Uaa 19,Uaa 20] [(4,zad)],[(.ret,qS [Xaa 2] []),(.exit 0,qS [zaa 1,sP 18 (yaa d8),Uaa 19,Uaa 20,Xaa 21] [(4,zad)])]⟩,⟨20,1,qE,[(.normal,qS [zaa 1,sP 29 iP,Uaa 30,Uaa 31,Xaa 81] [(4,zad),(14,uai)])]⟩,⟨15,2,qS [zaa 1,sP 29 iP,Uaa 30,Uaa 31] [(4,zad)],[(.ret,qS [Xaa 2] []),(.exit 2,qS [zaa 1,sP 29 iP,Uaa 30,Uaa 31,Xaa 32] [(4,zad)])]⟩]⟩
def rM:Ctr:=⟨151,19,[.agg zad],[],[⟨yab,[.one],[]⟩],ap2 lw⟩
theorem vV:Lk 3 rM:=ls Ex (aC ic aN)
def uG:T1U->Option (T1U⊕(LLI×Int×Int×Bool×T0U)):=λ(v0,v1,v2,v3,v4,v5,v6,_)=>
bif decide (v2 < v1) then ((d9 v2).bind λx0=>
(dM v6 x0).bind λx1=>
(dM v6 x0).bind λx2=>
let x3:=(List.modify v6 x0 λe=>((-1),e.2));
let x4:=w64 (v2+1);
some (.inl (v0,v1,x4,v3,v4,v5,x3,()))) else
some (.inr (v0,v1,v2,false,v3,v4,v5,v6,()))
def uF:T2O->Option (T2O⊕(LLI×Int×Int×LI×Int×Int×Bool×T1b)):=λ(v0,v1,v2,v3,v4,v5,v6,v7,v8,v9,v10,_)=>
bif decide (v5 < v4) then ((d9 v5).bind λx0=>
(dM v3 x0).bind λx1=>
let x2:LDCn:=[(0,(x1,(0,0)))];
bif (dY 24 v10.length x2.length) then let x3:LDCn:=(List.append v10 x2);
let x4:=w64 (v5+1);
some (.inl (v0,v1,v2,v3,v4,x4,v6,v7,v8,v9,x3,())) else none) else
some (.inr (v0,v1,v2,v3,v4,v5,false,v6,v7,v8,v9,v10,()))
def uE:T1T->Option (T1T⊕(LLI×T1D)):=λ(v0,v1,v2,v3,v4,v5,v6,_)=>
bif decide (v2 < v1) then ((d9 v2).bind λx0=>
(dM v0 x0).bind λx1=>
let x2:=dN x1.length;
(dU uF NN (v0,v1,v2,x1,x2,0,v3,v4,v5,v6,[],())).bind λ(x3,x4,x5,x6,x7,x8,x9,ac,ae,af,ag,ah,_)=>
bif (dY 24 af.length (List.length [ah])) then let ai:List LDCn:=(List.append af [ah]);
let aj:=w64 (x5+1);
some (.inl (x3,x4,aj,ac,ae,ai,ag,())) else none) else
some (.inr (v0,v1,v2,false,v3,v4,v5,v6,()))
def rd(a0:List LI):Option (LLCn×LDOp×Int×Unit):=
bif (uy 8 8 3) then let x0:LDOp:=(List.replicate 8 (0,(0,false)));
let x1:=dN x0.length;
(dU uG NN (a0,x1,0,(),(),(),x0,())).bind λ(x2,x3,x4,x5,x6,x7,x8,x9,_)=>
let ac:=dN x2.length;
(dU uE NN (x2,ac,0,x6,x7,[],x9,())).bind λ(ae,af,ag,ah,ai,aj,ak,am,_)=>
(lw ak am).bind λ(an,_)=>
bif (!an) then (some ([],[],3,())) else
some (ak,am,0,()) else none
def ID:X.Cfg:=⟨E0,[rM],[(46,(uaa KCn)),(47,(uaa KCn))],[(lx 4 0 [sP 0 (yaa RW),zaa 2,zaa 4,Uaa 15,Uaa 16] [(6,Zab),(10,uL [N1,(uaa KOp)])] 17),⟨19,1,qS [zaa 2,zaa 4,Zaa 8 19,sP 25 (yaa RW),Uaa 26,Uaa 27,sP 31 RW,Uaa 32,Uaa 33] [(6,Zab),(10,uaf),(19,uag)],[(.exit 4,qS [zaa 2,zaa 4,Zaa 8 19,sP 25 (yaa RW),Uaa 26,Uaa 27,sP 31 RW,Uaa 32,Uaa 33,Xaa 34] [(6,Zab),(10,uaf),(19,uag)])]⟩,⟨11,2,qS [zaa 2,zaa 4,sP 25 (yaa RW),Uaa 26,Uaa 27] [(6,Zab),(10,uaf)],[(.exit 2,qS [zaa 2,zaa 4,sP 25 (yaa RW),Uaa 26,Uaa 27,Xaa 28] [(6,Zab),(10,uaf)])]⟩]⟩
def BD:Ctr:=⟨156,20,uL [(yaa RW)],[],[⟨zak,[.agg 2,.one],[]⟩],ap1 rd⟩
theorem Iq:Lk 4 BD:=ls ID (aC vV aN)
def fV:LLI×Int×Int×LLI×Unit->Option ((LLI×Int×Int×LLI×Unit)⊕(LLI×Int×Int×Bool×LLI×Unit)):=λ(v0,v1,v2,v3,_)=>
bif decide (v2 < v1) then ((d9 v2).bind λx0=>
(dM v0 x0).bind λx1=>
bif (dY 2 0 x1.length) then let x2:List (Int):=(List.append [] x1);
bif (dY 24 v3.length (List.length [x2])) then let x3:List LI:=(List.append v3 [x2]);
let x4:=w64 (v2+1);
some (.inl (v0,v1,x4,x3,())) else none else none) else
some (.inr (v0,v1,v2,false,v3,()))
def f9(a0:List LI):Option (LLI×Unit):=
let x0:=dN a0.length;
(dU fV NN (a0,x0,0,[],())).bind λ(x1,x2,x3,x4,x5,_)=>
some (x5,())
def ww:X.Cfg:=⟨E0,[],[(15,(uaa CW)),(16,(uaa CW))],[(lx 4 0 [Zaa 3 9,sP 6 (yaa RW),Uaa 7,Uaa 8] [(9,Uai)] 9)]⟩
def jp:Ctr:=⟨153,21,uL [(yaa RW)],[],[⟨Uai,[.one],[]⟩],ap1 f9⟩
theorem lS:Lk 1 jp:=ls ww aN
def jj:LDOu×T02->Option ((LDOu×T02)⊕((Bool×Unit)⊕(LDOu×T0e))):=λ(v0,v1,v2,_)=>
bif decide (v2 < v1) then ((d9 v2).bind λx0=>
(dM v0 x0).bind λx1=>
(bif (x1.1 != v2) then (some (v0,v1,v2,true,())) else
bif decide (x1.2.1 < 0) then (some (v0,v1,v2,true,())) else
bif decide (x1.2.1>=2) then (some (v0,v1,v2,true,())) else
let x2:=dN x1.2.2.length;
some (v0,v1,v2,(decide (x2 > 16)),()):Option (LDOu×T0e)).bind λ(x2,x3,x4,x5,_)=>
bif x5 then (some (.inr (.inl (false,())))) else
let x6:=w64 (x4+1);
some (.inl (x2,x3,x6,()))) else
some (.inr (.inr (v0,v1,v2,false,())))
def lu(a0:LDOu):Option (Bool×Unit):=
let x0:=dN a0.length;
(match dU jj NN (a0,x0,0,()) with
| none=>none
| some (.inl (x1,_))=>
some (x1,())
| some (.inr (x1,_))=>
some (true,()))
def A9:X.Cfg:=⟨E0,[],[],[⟨8,0,qE,[(.normal,qS [sP 5 ke,Uaa 6,Uaa 7,Xaa 31] [])]⟩,⟨3,1,qS [sP 5 ke,Uaa 6,Uaa 7] [],[(.ret,qS [Xaa 2] []),(.exit 0,qS [sP 5 ke,Uaa 6,Uaa 7,Xaa 8] [])]⟩]⟩
def tK:Ctr:=⟨152,22,uL [ke],[],[⟨yab,[.one],[]⟩],ap1 lu⟩
theorem AQ:Lk 1 tK:=ls A9 aN
def kA:T2t->Option (T2t⊕((Bool×Unit)⊕(LLI×T2b))):=λ(v0,v1,v2,v3)=>
bif decide (v2 < v1) then ((d9 v2).bind λx0=>
(dM v0 x0).bind λx1=>
let x2:=dN x1.length;
bif decide (x2 > 64) then (some (.inr (.inl (false,())))) else
let x3:=w64 (v2+1);
some (.inl (v0,v1,x3,v3))) else
some (.inr (.inr (v0,v1,v2,false,v3)))
def kz:T2n->Option (T2n⊕((Bool×Unit)⊕(LDOu×T2b))):=λ(v0,v1,v2,v3)=>
bif decide (v2 < v1) then ((d9 v2).bind λx0=>
(dM v0 x0).bind λx1=>
(ff x1.2.2 16).bind λ(x2,_)=>
bif (!x2) then (some (.inr (.inl (false,())))) else
let x3:=w64 (v2+1);
some (.inl (v0,v1,x3,v3))) else
some (.inr (.inr (v0,v1,v2,false,v3)))
def jS(a0:List (Int)) (a1:List (Int)) (a2:List LI) (a3:List LDCn) (a4:LDOp) (a5:LDOu):Option (Bool×Unit):=
let x0:=dN a2.length;
(match dU kA NN (a2,x0,0,a0,a1,a2,a3,a4,a5,()) with
| none=>none
| some (.inl (x1,_))=>
some (x1,())
| some (.inr (x1,x2,x3,x4,x5,x6,x7,x8,x9,ac,_))=>
let ae:=dN ac.length;
(match dU kz NN (ac,ae,0,x5,x6,x7,x8,x9,ac,()) with
| none=>none
| some (.inl (af,_))=>
some (af,())
| some (.inr (af,ag,ah,ai,aj,ak,am,an,ap,aq,_))=>
let av:=dN aj.length;
bif decide (av<=64) then (let ax:Int:=(dN ak.length);
bif decide (ax<=64) then (let ay:Int:=(dN am.length);
bif decide (ay<=2) then ((lw an ap).bind λ(az,_)=>
bif az then (let aA:Int:=(dN aq.length);
bif decide (aA<=200) then ((lu aq).bind λ(aB,_)=>
some (aB,())) else
some (false,())) else
some (false,())) else
some (false,())) else
some (false,())) else
some (false,())))
def Eu:X.Cfg:=⟨E0,[gD,rM,tK],[],[⟨3,0,qS [zaa 1,sP 8 (yaa RW),Uaa 9,Uaa 10] [(4,Xag)],[(.ret,qS [Xaa 2] []),(.exit 0,qS [zaa 1,sP 8 (yaa RW),Uaa 9,Uaa 10,Xaa 11] [(4,Xag)])]⟩,⟨12,1,qS [zaa 1,sP 19 ke,Uaa 20,Uaa 21] [(4,Xag)],[(.ret,qS [Xaa 2] []),(.exit 2,qS [zaa 1,sP 19 ke,Uaa 20,Uaa 21,Xaa 22] [(4,Xag)])]⟩]⟩
def of:Ctr:=⟨121,23,[.agg Xag],[],[⟨yab,[.one],[]⟩],ap6 jS⟩
theorem ry:Lk 4 of:=ls Eu (aC ic (aC vV (aC AQ aN)))
def rb(a0:List LI) (a1:List LI) (a2:List (Int)) (a3:List (Int)):Option (LI×LI×LLI×LLCn×LDOp×Unit×Int×Unit):=
(rd a0).bind λ(x0,x1,x2,_)=>
bif (x2 != 0) then (some ([],[],[],[],[],(),x2,())) else
bif (dY 2 0 a2.length) then let x3:List (Int):=(List.append [] a2);
bif (dY 2 0 a3.length) then let x4:List (Int):=(List.append [] a3);
(f9 a1).bind λ(x5,_)=>
(jS x3 x4 x5 x0 x1 []).bind λ(x6,_)=>
bif (!x6) then (some ([],[],[],[],[],(),3,())) else
some (x3,x4,x5,x0,x1,(),0,()) else none else none
def Ev:X.Cfg:=⟨E0,[BD,jp,of],[],[]⟩
def wN:Ctr:=⟨125,24,uL [(yaa RW),(yaa RW),RW,RW],[],[⟨uL [RW,RW,(yaa RW),(yaa d8),iP,N1,I64],[.agg 6,.one],[]⟩],ap4 rb⟩
theorem D2:Lk 5 wN:=ls Ev (aC Iq (aC lS (aC ry aN)))
def mS(a0:List (Int)) (a1:Int):Option (LI×LI×LLI×LLCn×LDOp×Unit×T08):=
(gF 5 a0 a1).bind λ(x0,x1,x2,_)=>
(gF 3 x1 x2).bind λ(x3,x4,x5,_)=>
let x6:List LI:=[x0,x3];
(gF 8 x4 x5).bind λ(x7,x8,x9,_)=>
(gF 4 x8 x9).bind λ(ac,ae,af,_)=>
let ag:List LI:=[x7,ac];
(gF 5 ae af).bind λ(ah,ai,aj,_)=>
(gF 5 ai aj).bind λ(ak,am)=>
(rb x6 ag ah ak).bind λ(ap,aq,av,ax,ay,az,aA,_)=>
some (ap,aq,av,ax,ay,az,am)
def CF:X.Cfg:=⟨E0,[t6,wN],[(10,(uaa CW)),(15,(uaa CW))],[]⟩
def u5:Ctr:=⟨76,25,[.ptr ⟨2,0,[]⟩ [0]],[(2,Xab)],[⟨uL [RW,RW,(yaa RW),(yaa d8),iP,N1],[.agg 6],[(2,Xab)]⟩],ap2 mS⟩
theorem Ch:Lk 6 u5:=ls CF (aC yI (aC D2 aN))
def kH:T2R->Option (T2R⊕((Bool×Unit)⊕T30)):=λ(v0,v1,v2,v3,v4,v5,v6,v7,v8,v9,v10,v11,_)=>
bif decide (v1 < v0) then ((d9 v1).bind λx0=>
(dM v11 x0).bind λx1=>
(dM v11 x0).bind λx2=>
(bif decide (x2 < 0) then (some (v0,v1,true,v2,v3,v4,v5,v6,v7,v8,v9,v10,v11,())) else
bif decide (x2>=8) then (some (v0,v1,true,v2,v3,v4,v5,v6,v7,v8,v9,v10,v11,())) else
(d9 v1).bind λx3=>
bif (Nat.beq x3 0) then (bif (!v7) then (some (v0,v1,(x2 != 0),v2,v3,v4,v5,v6,v7,v8,v9,v10,v11,())) else
some (v0,v1,false,v2,v3,v4,v5,v6,v7,v8,v9,v10,v11,())) else
bif (Nat.beq x3 1) then (bif (!v8) then (some (v0,v1,(x2 != 0),v2,v3,v4,v5,v6,v7,v8,v9,v10,v11,())) else
some (v0,v1,false,v2,v3,v4,v5,v6,v7,v8,v9,v10,v11,())) else
bif (Nat.beq x3 2) then (bif (!v9) then (some (v0,v1,(x2 != 0),v2,v3,v4,v5,v6,v7,v8,v9,v10,v11,())) else
some (v0,v1,false,v2,v3,v4,v5,v6,v7,v8,v9,v10,v11,())) else
bif (Nat.beq x3 3) then bif (!v10) then (some (v0,v1,(x2 != 0),v2,v3,v4,v5,v6,v7,v8,v9,v10,v11,())) else
some (v0,v1,false,v2,v3,v4,v5,v6,v7,v8,v9,v10,v11,()) else none:Option (T30)).bind λ(x3,x4,x5,x6)=>
bif x5 then (some (.inr (.inl (false,())))) else
let aj:=w64 (x4+1);
some (.inl (x3,aj,x6))) else
some (.inr (.inr (v0,v1,false,v2,v3,v4,v5,v6,v7,v8,v9,v10,v11,())))
def nU(a0:Int) (a1:Int) (a2:Int) (a3:Int) (a4:Int):Option (Bool×Unit):=
bif decide (a0 < 0) then (some (false,())) else
bif decide (a0 > 24) then (some (false,())) else
(jB a0).bind λ(x0,x1,x2,x3,_)=>
let x4:List (Int):=[a1,a2,a3];
let x5:=dN x4.length;
(match dU kH NN (x5,0,a0,a1,a2,a3,a4,x0,x1,x2,x3,x4,()) with
| none=>none
| some (.inl (x6,_))=>
some (x6,())
| some (.inr (x6,x7,x8,x9,ac,ae,af,ag,ah,ai,aj,ak,am,_))=>
(bif decide (ag < 0) then (some (true,x9,ac,ae,af,ag,())) else
bif decide (ag > 65535) then (some (true,x9,ac,ae,af,ag,())) else
bif (!ak) then (some ((ag != 0),x9,ac,ae,af,ag,())) else
some (false,x9,ac,ae,af,ag,()):Option (Bool×T0Z)).bind λ(an,ap,aq,av,ax,ay,_)=>
bif an then (some (false,())) else
(hU ap).bind λ(az,_)=>
bif az then (some ((decide (ay < 64)),())) else
bif (ap==15) then (some ((decide (ay < 4)),())) else
bif (ap==23) then (some ((decide (ay<=15)),())) else
some (true,()))
def EQ:X.Cfg:=⟨E0,[tT,ld],[],[⟨12,0,qE,[(.normal,qS [zaa 1,zaa 3,Zaa 23 49,Uaa 24,Uaa 25,Xaa 45] [(4,Zad),(8,Uag),(49,zae)])]⟩,⟨7,1,qS [zaa 1,zaa 3,Zaa 23 49,Uaa 24,Uaa 25] [(4,Zad),(8,Uag),(49,zae)],[(.ret,qS [Xaa 2] []),(.exit 0,qS [zaa 1,zaa 3,Zaa 23 49,Uaa 24,Uaa 25,Xaa 26] [(4,Zad),(8,Uag),(49,zae)])]⟩,⟨15,2,qE,[(.normal,qS [zaa 1,Xaa 64] [(4,Zad)])]⟩]⟩
def wY:Ctr:=⟨98,26,[.agg Zad],[],[⟨yab,[.one],[]⟩],ap5 nU⟩
theorem Ed:Lk 2 wY:=ls EQ (aC yF (aC nk aN))
def kG:T1z->Option (T1z⊕((Int×Unit)⊕T1S)):=λ(v0,v1,v2,v3,v4,v5,_)=>
bif decide (v2 < v1) then ((d9 v2).bind λx0=>
(dM v0 x0).bind λx1=>
let x2:=dN x1.length;
(d9 v2).bind λx3=>
(dM v4 x3).bind λx4=>
bif decide (x2 > x4) then (some (.inr (.inl (1,())))) else
let x5:=w64 (v2+1);
some (.inl (v0,v1,x5,v3,v4,v5,()))) else
some (.inr (.inr (v0,v1,v2,false,v3,v4,v5,())))
def kF:T1p->Option (T1p⊕((Int×Unit)⊕T1N)):=λ(v0,v1,v2,v3)=>
bif decide (v2 < v1) then ((d9 v2).bind λx0=>
(dM v0 x0).bind λx1=>
(nU x1.1 x1.2.1 x1.2.2.1 x1.2.2.2.1 x1.2.2.2.2).bind λ(x2,_)=>
bif (!x2) then (some (.inr (.inl (5,())))) else
let x3:=w64 (v2+1);
some (.inl (v0,v1,x3,v3))) else
some (.inr (.inr (v0,v1,v2,false,v3)))
def kE:T1p->Option (T1p⊕((Int×Unit)⊕T1N)):=λ(v0,v1,v2,v3,v4,v5,_)=>
bif decide (v2 < v1) then ((d9 v2).bind λx0=>
(dM v0 x0).bind λx1=>
((hU x1.1).bind λ(x2,_)=>
bif x2 then (let x3:Int:=(dN v3.length);
bif decide (x1.2.2.2.2>=x3) then (some (v0,v1,v2,true,v3,v4,v5,())) else
bif (x1.1==15) then (let x4:Int:=(dN v4.length);
some (v0,v1,v2,(decide (x1.2.2.2.2>=x4)),v3,v4,v5,())) else
some (v0,v1,v2,false,v3,v4,v5,())) else
bif (x1.1==15) then (let x3:Int:=(dN v4.length);
some (v0,v1,v2,(decide (x1.2.2.2.2>=x3)),v3,v4,v5,())) else
some (v0,v1,v2,false,v3,v4,v5,()):Option (T1N)).bind λ(x2,x3,x4,x5,x6)=>
bif x5 then (some (.inr (.inl (6,())))) else
let x9:=w64 (x4+1);
some (.inl (x2,x3,x9,x6))) else
some (.inr (.inr (v0,v1,v2,false,v3,v4,v5,())))
def iX(a0:LDIn) (a1:List (Int)) (a2:List LI):Option (Int×Unit):=
(fS a1).bind λ(x0,_)=>
bif (!x0) then (some (1,())) else
let x1:=dN a2.length;
let x2:=dN a1.length;
bif (x1 != x2) then (some (1,())) else
let x3:=dN a2.length;
(match dU kG NN (a2,x3,0,a0,a1,a2,()) with
| none=>none
| some (.inl (x4,_))=>
some (x4,())
| some (.inr (x4,x5,x6,x7,x8,x9))=>
let ae:=dN x8.length;
bif decide (ae < 1) then (some (3,())) else
let af:=dN x8.length;
bif decide (af > 64) then (some (3,())) else
let ag:=dN x8.length;
(match dU kF NN (x8,ag,0,x8,x9) with
| none=>none
| some (.inl (ah,_))=>
some (ah,())
| some (.inr (ah,ai,aj,ak,am,an))=>
let aq:=dN am.length;
(match dU kE NN (am,aq,0,am,an) with
| none=>none
| some (.inl (av,_))=>
some (av,())
| some (.inr (av,_))=>
some (0,()))))
def EP:X.Cfg:=⟨E0,[l9,wY,ld],[],[⟨6,0,qS [zaa 1,sP 23 (yaa RW),Uaa 24,Uaa 25] [(4,uab)],[(.ret,qS [Uaa 2] []),(.exit 0,qS [zaa 1,sP 23 (yaa RW),Uaa 24,Uaa 25,Xaa 26] [(4,uab)])]⟩,⟨18,1,qS [zaa 1,sP 50 fk,Uaa 51,Uaa 52] [(4,uab)],[(.ret,qS [Uaa 2] []),(.exit 2,qS [zaa 1,sP 50 fk,Uaa 51,Uaa 52,Xaa 53] [(4,uab)])]⟩,⟨32,2,qE,[(.normal,qS [zaa 1,sP 61 fk,Uaa 62,Uaa 63,Xaa 90] [(4,uab)])]⟩,⟨27,3,qS [zaa 1,sP 61 fk,Uaa 62,Uaa 63] [(4,uab)],[(.ret,qS [Uaa 2] []),(.exit 4,qS [zaa 1,sP 61 fk,Uaa 62,Uaa 63,Xaa 64] [(4,uab)])]⟩]⟩
def oi:Ctr:=⟨45,27,[.agg uab],[],[⟨Xac,[.one],[]⟩],ap3 iX⟩
theorem rB:Lk 3 oi:=ls EP (aC oc (aC Ed (aC nk aN)))
def kK:T2N->Option (T2N⊕((Bool×Unit)⊕T2Y)):=λ(v0,v1,v2,v3,v4,v5,v6,v7,v8,v9)=>
bif decide (v8 < v7) then ((match ((d9 v8).bind λx0=>
(dM v6 x0).bind λx1=>
(d9 v1).bind λx2=>
(dM v0 x2).bind λx3=>
let x4:=w64 (v2+x3);
bif decide (x4>=x1) then ((d9 v8).bind λx5=>
(dM v0 x5).bind λx6=>
let x7:=w64 (x1+x6);
bif decide (x7>=v2) then (some (.inl (false,()))) else
some (.inr (v0,v1,v2,v3,v4,v5,v6,v7,v8,false,v9))) else
some (.inr (v0,v1,v2,v3,v4,v5,v6,v7,v8,false,v9)):Option ((Bool×Unit)⊕T2Y)) with
| none=>none
| some (.inl (x0,_))=>
some (.inr (.inl (x0,())))
| some (.inr (x0,x1,x2,x3,x4,x5,x6,x7,x8,x9,ac))=>
let af:=w64 (x8+1);
some (.inl (x0,x1,x2,x3,x4,x5,x6,x7,af,ac)))) else
some (.inr (.inr (v0,v1,v2,v3,v4,v5,v6,v7,v8,false,v9)))
def kJ:LI×T16->Option ((LI×T16)⊕((Bool×Unit)⊕(LI×T1r))):=λ(v0,v1,v2,v3,v4,v5,_)=>
bif decide (v3 < v2) then ((d9 v3).bind λx0=>
(dM v1 x0).bind λx1=>
bif decide (x1 < 0) then (some (.inr (.inl (false,())))) else
(d9 v3).bind λx2=>
(dM v0 x2).bind λx3=>
let x4:=w64 (512 - x3);
bif decide (x1 > x4) then (some (.inr (.inl (false,())))) else
(d9 v3).bind λx5=>
bif (iQ 0 x5 v4.length) then let x6:List (Int):=(m8 v4 0 (Nat.sub x5 0));
let x7:=dN x6.length;
(match dU kK NN (v0,v3,x1,v1,v2,v3,x6,x7,0,v4,v5,()) with
| none=>none
| some (.inl (x8,_))=>
some (.inr (.inl (x8,())))
| some (.inr (x8,x9,ac,ae,af,ag,ah,ai,aj,ak,am))=>
let ap:=w64 (ag+1);
some (.inl (x8,ae,af,ap,am))) else none) else
some (.inr (.inr (v0,v1,v2,v3,false,v4,v5,())))
def iY(a0:List (Int)) (a1:Int) (a2:List (Int)):Option (Bool×Unit):=
(fS a2).bind λ(x0,_)=>
bif (!x0) then (some (false,())) else
let x1:=dN a0.length;
let x2:=dN a2.length;
bif (x1 != x2) then (some (false,())) else
let x3:=dN a0.length;
(match dU kJ NN (a2,a0,x3,0,a0,a1,()) with
| none=>none
| some (.inl (x4,_))=>
some (x4,())
| some (.inr (x4,_))=>
some (true,()))
def EV:X.Cfg:=⟨E0,[l9],[],[⟨18,0,qE,[(.ret,qS [Xaa 4] []),(.normal,qS [sP 1 RI,zaa 2,Uaa 5,Uaa 6,sP 21 RI,Uaa 22,Uaa 23,sP 42 RI,Uaa 43,Uaa 44,Xaa 66] [(6,Uab)])]⟩,⟨15,1,qS [sP 1 RI,zaa 2,Uaa 5,Uaa 6,sP 21 RI,Uaa 22,Uaa 23,sP 42 RI,Uaa 43,Uaa 44] [(6,Uab)],[(.ret,qS [Xaa 4] []),(.exit 2,qS [sP 1 RI,zaa 2,Uaa 5,Uaa 6,sP 21 RI,Uaa 22,Uaa 23,sP 42 RI,Uaa 43,Uaa 44,Xaa 45] [(6,Uab)])]⟩,⟨6,2,qS [sP 1 RI,zaa 2,sP 21 RI,Uaa 22,Uaa 23] [(6,Uab)],[(.ret,qS [Xaa 4] []),(.exit 0,qS [sP 1 RI,zaa 2,sP 21 RI,Uaa 22,Uaa 23,Xaa 24] [(6,Uab)])]⟩]⟩
def l8:Ctr:=⟨65,28,[.agg Uab,shU RI],[],[⟨yab,[.one],[]⟩],ap3 iY⟩
theorem oa:Lk 2 l8:=ls EV (aC oc aN)
def zr:Int×Int×LDLn×Unit->Option ((Int×Int×LDLn×Unit)⊕(Int×Int×Bool×LDLn×Unit)):=λ(v0,v1,v2,_)=>
bif decide (v1 < v0) then ((d9 v1).bind λx0=>
(dM v2 x0).bind λx1=>
(dM v2 x0).bind λx2=>
let x3:=(List.modify v2 x0 λe=>((-1),e.2));
let x4:=w64 (v1+1);
some (.inl (v0,x4,x3,()))) else
some (.inr (v0,v1,false,v2,()))
def nW:Option (LDLn×Unit):=
bif (uy 4 4 3) then let x0:LDLn:=(List.replicate 4 (0,(false,[])));
let x1:=dN x0.length;
(dU zr NN (x1,0,x0,())).bind λ(x2,x3,x4,x5,_)=>
some (x5,()) else none
def EU:X.Cfg:=⟨E0,[],[(3,Tf)],[(lx 4 0 [Zaa 1 5,Uaa 5,Uaa 6] [(5,uL [li])] 7)]⟩
def rU:Ctr:=⟨67,29,[],[],[⟨uL [li],[.one],[]⟩],λh=>nW⟩
theorem wl:Lk 1 rU:=ls EU aN
def sW:T3b->Option (T3b⊕(Int×LLI×Int×Int×LI×T2Q)):=λ(v0,v1,v2,v3,v4,v5,v6,v7,v8,v9,v10,v11,v12,v13,v14,v15,_)=>
bif decide (v6 < v5) then ((d9 v6).bind λx0=>
(dM v4 x0).bind λx1=>
(d9 v0).bind λx2=>
(dM v10 x2).bind λx3=>
let x4:=w64 (x3+v6);
(d9 x4).bind λx5=>
(dM v14 x5).bind λx6=>
(dM v14 x5).bind λx7=>
let x8:=List.modify v14 x5 λe=>(e.1,x1);
let x9:=w64 (v6+1);
some (.inl (v0,v1,v2,v3,v4,v5,x9,v7,v8,v9,v10,v11,v12,v13,x8,v15,()))) else
some (.inr (v0,v1,v2,v3,v4,v5,v6,false,v7,v8,v9,v10,v11,v12,v13,v14,v15,()))
def oI:T2Z->Option (T2Z⊕((Int×T0c)⊕(LLI×T2Q))):=λ(v0,v1,v2,v3,v4,v5)=>
bif decide (v2 < v1) then ((d9 v2).bind λx0=>
(dM v0 x0).bind λx1=>
let x2:=dN x1.length;
(d9 v2).bind λx3=>
(dM v4 x3).bind λx4=>
bif decide (x2 > x4) then (some (.inr (.inl (1,(),(),())))) else
let x5:=dN x1.length;
(dU sW NN (v2,v0,v1,v2,x1,x5,0,v3,v4,v5)).bind λ(x6,x7,x8,x9,ac,ae,af,ag,ah)=>
let ax:=w64 (x9+1);
some (.inl (x7,x8,ax,ah))) else
some (.inr (.inr (v0,v1,v2,false,v3,v4,v5)))
def pF(a0:LDIn) (a1:List (Int)) (a2:List LI) (a3:List (Int)) (a4:Int):Option (LDCe×LDLn×Int×Unit):=
(iY a3 a4 a1).bind λ(x0,_)=>
bif (!x0) then (some ([],[],1,())) else
let x1:=dN a2.length;
let x2:=dN a1.length;
bif (x1 != x2) then (some ([],[],1,())) else
bif (uy 512 512 2) then let x3:LDCe:=(List.replicate 512 (0,0));
(nW).bind λ(x4,_)=>
let x5:=dN a2.length;
(match dU oI NN (a2,x5,0,a0,a1,a2,a3,a4,(),(),x3,x4,()) with
| none=>none
| some (.inl (x6,x7,x8,_))=>
some ([],[],x6,())
| some (.inr (x6,x7,x8,x9,ac,ae,af,ag,ah,ai,aj,ak,am,_))=>
some (ak,am,0,())) else none
def Ha:X.Cfg:=⟨E0,[l8,rU],[],[⟨16,0,qS [zaa 2,zaa 3,zaa 4,zaa 6,Uaa 7,sP 30 (yaa RW),Uaa 31,Uaa 32,sP 46 RW,Uaa 47,Uaa 48] [(6,uab),(8,Uab),(10,Zab),(14,Xaf)],[(.exit 2,qS [zaa 2,zaa 3,zaa 4,zaa 6,Uaa 7,sP 30 (yaa RW),Uaa 31,Uaa 32,sP 46 RW,Uaa 47,Uaa 48,Xaa 49] [(6,uab),(8,Uab),(10,Zab),(14,Xaf)])]⟩,⟨7,1,qS [zaa 2,zaa 3,zaa 4,zaa 6,sP 30 (yaa RW),Uaa 31,Uaa 32] [(6,uab),(8,Uab),(10,Zab),(14,Xaf)],[(.ret,qS [zaa 4,Uaa 5] [(10,Zab)]),(.exit 0,qS [zaa 2,zaa 3,zaa 4,zaa 6,sP 30 (yaa RW),Uaa 31,Uaa 32,Xaa 33] [(6,uab),(8,Uab),(10,Zab),(14,Xaf)])]⟩]⟩
def ze:Ctr:=⟨150,30,[.agg uab,.agg Uab],[],[⟨uL [(uaa KCe),li,I64],[.agg 2,.one],[]⟩],ap5 pF⟩
theorem Gn:Lk 3 ze:=ls Ha (aC oa (aC wl aN))
def si:T2J->Option (T2J⊕(Int×Bool×T2G)):=λ(v0,v1,v2,v3,v4,v5,v6,v7,v8,v9,v10,_)=>
bif decide (v0 < 4) then (bif (uy 8 8 2) then let x0:LDCe:=(List.replicate 8 (0,0));
(bif (v0==0) then (some (v0,v1,v2,v3,v4,v5,v6,v7,v8,v9,v10,1,x0,0,0,(-1),(-1),0,0,())) else
some (v0,v1,v2,v3,v4,v5,v6,v7,v8,v9,v10,0,x0,0,0,(-1),(-1),0,0,()):Option (Int×Unit×Int×Unit×Unit×Unit×T32)).bind λ(x1,x2,x3,x4,x5,x6,x7,x8,x9,ac,ae,af,ag,ah,ai,aj,ak,am,an,_)=>
let ap:LDTh:=[(af,(ag,(ah,(ai,(aj,(ak,(am,an)))))))];
bif (dY 80 ae.length ap.length) then let aq:LDTh:=(List.append ae ap);
let av:=w64 (x1+1);
some (.inl (av,x2,x3,x4,x5,x6,x7,x8,x9,ac,aq,())) else none else none) else
some (.inr (v0,false,v1,v2,v3,v4,v5,v6,v7,v8,v9,v10,()))
def nT(a0:LDIn) (a1:List (Int)) (a2:List LI) (a3:List (Int)) (a4:Int):Option (LI×Int×LDCe×LDLn×LDTh×Int×Unit):=
(iX a0 a1 a2).bind λ(x0,_)=>
bif (x0 != 0) then (some ([],0,[],[],[],x0,())) else
(iY a3 a4 a1).bind λ(x1,_)=>
bif (!x1) then (some ([],0,[],[],[],1,())) else
(pF a0 a1 a2 a3 a4).bind λ(x2,x3,x4,_)=>
bif (dY 8 0 a3.length) then let x5:List (Int):=(List.append [] a3);
(dU si NN (0,(),0,(),(),(),x5,a4,x2,x3,[],())).bind λ(x6,x7,x8,x9,ac,ae,af,ag,ah,ai,aj,ak,_)=>
some (ag,ah,ai,aj,ak,0,()) else none
def EO:X.Cfg:=⟨E0,[oi,l8,ze],[(49,RZ),(50,RZ)],[⟨18,0,qE,[(.normal,qS [zaa 4,zaa 9,zaa 11,Uaa 38] [(10,yac),(20,Uak),(24,uah)])]⟩,(lx 12 1 [zaa 4,zaa 9,Uaa 38] [(10,yac),(20,Uak)] 39)]⟩
def wX:Ctr:=⟨120,31,[.agg uab,.agg Uab],[],[⟨uL [RI,CW,fi,fT,sJ,I64],[.agg 5,.one],[]⟩],ap5 nT⟩
theorem Ec:Lk 4 wX:=ls EO (aC rB (aC oa (aC Gn aN)))
def gE(a0:List (Int)) (a1:Int) (a2:Int):Option (Bool×Unit):=
bif decide (a1>=0) then (let x0:Int:=(dN a0.length);
bif decide (a1 < x0) then (bif decide (a2>=0) then ((d9 a1).bind λx1=>
(dM a0 x1).bind λx2=>
some ((decide (a2 < x2)),())) else
some (false,())) else
some (false,())) else
some (false,())
def Cy:X.Cfg:=⟨E0,[],[],[]⟩
def kt:Ctr:=⟨111,32,[shU RI,.agg Uac],[],[⟨yab,[.one],[]⟩],ap3 gE⟩
theorem mZ:Lk 1 kt:=ls Cy aN
def ij(a0:List (Int)) (a1:Int) (a2:Int) (a3:Int) (a4:Int):Option (Bool×Unit):=
bif (a1==0) then (bif (a3==0) then (some ((a4==0),())) else
some (false,())) else
bif (a1==2) then (bif (a3==0) then (some ((a4==0),())) else
some (false,())) else
bif (a1==1) then (bif (a2==0) then ((gE a0 a3 a4).bind λ(x0,_)=>
some (x0,())) else
some (false,())) else
some (false,())
def Cx:X.Cfg:=⟨E0,[kt],[],[]⟩
def kq:Ctr:=⟨66,33,[shU RI,.agg Uaf],[],[⟨yab,[.one],[]⟩],ap5 ij⟩
theorem mY:Lk 2 kq:=ls Cx (aC mZ aN)
def jR:T2q->Option (T2q⊕((Bool×Unit)⊕(LI×LLCn×Int×Int×LDCn×T0Y))):=λ(v0,v1,v2,v3,v4,v5,v6,v7)=>
bif decide (v6 < v5) then ((d9 v6).bind λx0=>
(dM v4 x0).bind λx1=>
(ij v0 x1.1 x1.2.1 x1.2.2.1 x1.2.2.2).bind λ(x2,_)=>
bif (!x2) then (some (.inr (.inl (false,())))) else
let x3:=w64 (v6+1);
some (.inl (v0,v1,v2,v3,v4,v5,x3,v7))) else
some (.inr (.inr (v0,v1,v2,v3,v4,v5,v6,false,v7)))
def jQ:LI×T18->Option ((LI×T18)⊕((Bool×Unit)⊕(LI×LLCn×T0Y))):=λ(v0,v1,v2,v3,v4)=>
bif decide (v3 < v2) then ((d9 v3).bind λx0=>
(dM v1 x0).bind λx1=>
let x2:=dN x1.length;
(match dU jR NN (v0,v1,v2,v3,x1,x2,0,v4) with
| none=>none
| some (.inl (x3,_))=>
some (.inr (.inl (x3,())))
| some (.inr (x3,x4,x5,x6,x7,x8,x9,ac,ae))=>
let ag:=w64 (x6+1);
some (.inl (x3,x4,x5,ag,ae)))) else
some (.inr (.inr (v0,v1,v2,v3,false,v4)))
def mH(a0:List (Int)) (a1:List LDCn) (a2:LDOp):Option (Bool×Unit):=
let x0:=dN a1.length;
(match dU jQ NN (a0,a1,x0,0,a1,a2,()) with
| none=>none
| some (.inl (x1,_))=>
some (x1,())
| some (.inr (x1,_))=>
some (true,()))
def Cn:X.Cfg:=⟨E0,[kq],[],[⟨9,0,qS [sP 0 RI,sP 10 (yaa d8),Uaa 11,Uaa 12,sP 16 d8,Uaa 17,Uaa 18] [(8,zad)],[(.ret,qS [Xaa 4] []),(.exit 2,qS [sP 0 RI,sP 10 (yaa d8),Uaa 11,Uaa 12,sP 16 d8,Uaa 17,Uaa 18,Xaa 19] [(8,zad)])]⟩,⟨3,1,qS [sP 0 RI,sP 10 (yaa d8),Uaa 11,Uaa 12] [(8,zad)],[(.ret,qS [Xaa 4] []),(.exit 0,qS [sP 0 RI,sP 10 (yaa d8),Uaa 11,Uaa 12,Xaa 13] [(8,zad)])]⟩]⟩
def uR:Ctr:=⟨122,34,[shU RI,.agg zad],[],[⟨yab,[.one],[]⟩],ap3 mH⟩
theorem B6:Lk 3 uR:=ls Cn (aC mY aN)
def jv:T2s->Option (T2s⊕(LLCn×T2d)):=λ(v0,v1,v2,v3,v4,v5,v6,v7,v8,_)=>
bif decide (v2 < v1) then ((d9 v2).bind λx0=>
(dM v0 x0).bind λx1=>
bif (dY 24 0 x1.length) then let x2:LDCn:=(List.append [] x1);
bif (dY 24 v7.length (List.length [x2])) then let x3:List LDCn:=(List.append v7 [x2]);
let x4:=w64 (v2+1);
some (.inl (v0,v1,x4,v3,v4,v5,v6,x3,v8,())) else none else none) else
some (.inr (v0,v1,v2,false,v3,v4,v5,v6,v7,v8,()))
def g9(a0:List LDCn) (a1:LDOp):Option (T0a):=
bif (dY 24 0 a1.length) then let x0:LDOp:=(List.append [] a1);
let x1:=dN a0.length;
(dU jv NN (a0,x1,0,a0,a1,(),(),[],x0,())).bind λ(x2,x3,x4,x5,x6,x7,x8,x9,ac)=>
some (ac) else none
def GI:X.Cfg:=⟨E0,[],[(21,(uaa KCn)),(22,(uaa KCn))],[(lx 4 0 [zaa 2,zaa 3,sP 11 (yaa d8),Uaa 12,Uaa 13] [(4,zad),(6,Zab),(8,uaf)] 14)]⟩
def jM:Ctr:=⟨154,35,[.agg zad],[],[⟨uaf,[.agg 2],[]⟩],ap2 g9⟩
theorem k8:Lk 1 jM:=ls GI aN
def ju:LDOu×Int×Int×LDOu×Unit->Option ((LDOu×Int×Int×LDOu×Unit)⊕(LDOu×Int×Int×Bool×LDOu×Unit)):=λ(v0,v1,v2,v3,_)=>
bif decide (v2 < v1) then ((d9 v2).bind λx0=>
(dM v0 x0).bind λx1=>
bif (dY 24 0 x1.2.2.length) then let x2:LDCn:=(List.append [] x1.2.2);
let x3:LDOu:=[(x1.1,(x1.2.1,x2))];
bif (dY 40 v3.length x3.length) then let x4:LDOu:=(List.append v3 x3);
let x5:=w64 (v2+1);
some (.inl (v0,v1,x5,x4,())) else none else none) else
some (.inr (v0,v1,v2,false,v3,()))
def kV(a0:LDOu):Option (LDOu×Unit):=
let x0:=dN a0.length;
(dU ju NN (a0,x0,0,[],())).bind λ(x1,x2,x3,x4,x5,_)=>
some (x5,())
def GD:X.Cfg:=⟨E0,[],[(18,Jl),(19,Jl)],[(lx 4 0 [Zaa 3 9,sP 6 ke,Uaa 7,Uaa 8] [(9,yaj)] 9)]⟩
def tL:Ctr:=⟨155,36,uL [ke],[],[⟨yaj,[.one],[]⟩],ap1 kV⟩
theorem yz:Lk 1 tL:=ls GD aN
def pu(a0:List (Int)) (a1:List (Int)) (a2:List LI) (a3:List LDCn) (a4:LDOp) (a5:LDOu):Option (T1t):=
bif (dY 2 0 a0.length) then let x0:List (Int):=(List.append [] a0);
bif (dY 2 0 a1.length) then let x1:List (Int):=(List.append [] a1);
(f9 a2).bind λ(x2,_)=>
(g9 a3 a4).bind λ(x3,x4,_)=>
(kV a5).bind λ(x5,_)=>
some (x0,x1,x2,x3,x4,x5,()) else none else none
def GA:X.Cfg:=⟨E0,[jp,jM,tL],[],[]⟩
def tI:Ctr:=⟨123,37,[.agg Xag],[],[⟨zaj,[.agg 6],[]⟩],ap6 pu⟩
theorem yy:Lk 2 tI:=ls GA (aC lS (aC k8 (aC yz aN)))
def BW:T1k->Option (T1k⊕T1C):=λ(v0,v1,v2,v3,v4,v5,_)=>
bif decide (v1 < v0) then ((d9 v1).bind λx0=>
(dM v4 x0).bind λx1=>
(dM v4 x0).bind λx2=>
let x3:=List.modify v4 x0 λe=>(-1);
let x4:=w64 (v1+1);
some (.inl (v0,x4,v2,v3,x3,v5,()))) else
some (.inr (v0,v1,false,v2,v3,v4,v5,()))
def vf:Option (T09):=
bif (uy 4 4 1) then let x0:List (Int):=(List.replicate 4 0);
bif (uy 4 4 1) then let x1:List LI:=(List.replicate 4 []);
let x2:=dN x0.length;
(dU BW NN (x2,0,(),(),x0,x1,())).bind λ(x3,x4,x5,x6,x7,x8)=>
some (x8) else none else none
def IF:X.Cfg:=⟨E0,[],[(4,(uaa I64))],[(lx 4 0 [zaa 0,zaa 1,Uaa 8,Uaa 9] [(2,Zab),(4,Zae)] 10)]⟩
def BE:Ctr:=⟨124,38,[],[],[⟨Zae,[.agg 2],[]⟩],λh=>vf⟩
theorem Ir:Lk 1 BE:=ls IF aN
def zq:T3T->Option (T3T⊕(Int×Bool×T3Q)):=λ(v0,v1,v2,v3,v4,v5,v6,v7,v8,v9,v10,v11,v12,v13,v14,v15,v16,v17,v18,v19,v20,v21,v22,v23,v24,v25,v26,v27,v28,v29,v30,v31,v32,v33,v34,v35,v36,_)=>
bif decide (v0 < 4) then (bif (dY 8 v36.length (List.length [(-1)])) then let x0:List (Int):=(List.append v36 [(-1)]);
let x1:=w64 (v0+1);
some (.inl (x1,v1,v2,v3,v4,v5,v6,v7,v8,v9,v10,v11,v12,v13,v14,v15,v16,v17,v18,v19,v20,v21,v22,v23,v24,v25,v26,v27,v28,v29,v30,v31,v32,v33,v34,v35,x0,())) else none) else
some (.inr (v0,false,v1,v2,v3,v4,v5,v6,v7,v8,v9,v10,v11,v12,v13,v14,v15,v16,v17,v18,v19,v20,v21,v22,v23,v24,v25,v26,v27,v28,v29,v30,v31,v32,v33,v34,v35,v36,()))
def ra(a0:LDIn) (a1:List (Int)) (a2:List LI) (a3:List (Int)) (a4:Int) (a5:List (Int)) (a6:List (Int)) (a7:List LI) (a8:List LDCn) (a9:LDOp) (a10:LDOu):Option (LDIn×LI×LLI×LI×Int×LDCe×LDLn×LDTh×LI×LI×LLI×LLCn×LDOp×LDOu×LI×LLI×Unit×T08):=
(nT a0 a1 a2 a3 a4).bind λ(x0,x1,x2,x3,x4,x5,_)=>
bif (x5 != 0) then (some ([],[],[],[],0,[],[],[],[],[],[],[],[],[],[],[],(),[],x5,())) else
(jS a5 a6 a7 a8 a9 a10).bind λ(x6,_)=>
bif (!x6) then (some ([],[],[],[],0,[],[],[],[],[],[],[],[],[],[],[],(),[],1,())) else
(mH a1 a8 a9).bind λ(x7,_)=>
bif (!x7) then (some ([],[],[],[],0,[],[],[],[],[],[],[],[],[],[],[],(),[],1,())) else
(pu a5 a6 a7 a8 a9 a10).bind λ(x8,x9,ac,ae,af,ag,_)=>
(vf).bind λ(ah,ai,_)=>
(dU zq NN (0,(),(),(),(),0,(),(),(),(),(),(),(),(),(),(),(),(),(),a0,a1,a2,x0,x1,x2,x3,x4,x8,x9,ac,ae,af,ag,ah,ai,(),[],())).bind λ(aj,ak,am,an,ap,aq,av,ax,ay,az,aA,aB,aD,aE,aF,aG,aH,aI,aJ,aK,aL,aM,aO,aP,aQ,aR,aS,aT,aU,aV,aW,aY,aZ,ba,bc,bd,bf,bg,_)=>
some (aL,aM,aO,aP,aQ,aR,aS,aT,aU,aV,aW,aY,aZ,ba,bc,bd,bf,bg,0,())
def Es:X.Cfg:=⟨E0,[wX,of,uR,tI,BE],[],[(lx 11 0 [zaa 6,zaa 10,Uaa 39] [(14,yah),(22,uL [fk,RI,(yaa RW),RI,CW,fi,fT,gH,RW,RW,(yaa RW),(yaa d8),iP,ke,RI,(yaa RI),N1,(uaa I64)])] 40)]⟩
def wM:Ctr:=⟨74,39,[.agg uab,.agg Uab,.agg Xag],[],[⟨uL [fk,RI,(yaa RW),RI,CW,fi,fT,gH,RW,RW,(yaa RW),(yaa d8),iP,ke,RI,(yaa RI),N1,(uaa I64),I64],[.agg 18,.one],[]⟩],ap11 ra⟩
theorem D1:Lk 5 wM:=ls Es (aC Ec (aC ry (aC B6 (aC yy (aC Ir aN)))))
def n6(a0:List (Int)) (a1:Int):Option (T0X):=
(dQ 4 a0 a1).bind λ(x0,x1,x2,_)=>
let x3:List (Int):=[0,1,2,3,7,63];
(dQ 6 x1 x2).bind λ(x4,x5,x6,_)=>
(d9 x4).bind λx7=>
(dM x3 x7).bind λx8=>
(dM x3 x7).bind λx9=>
(dQ 4 x5 x6).bind λ(ac,ae)=>
some (x0,x9,(ac==0),ae)
def E7:X.Cfg:=⟨E0,[gh],[],[]⟩
def xg:Ctr:=⟨78,40,[.ptr ⟨2,0,[]⟩ [0]],[(2,Xab)],[⟨uai,[.agg 3],[(2,Xab)]⟩],ap2 n6⟩
theorem El:Lk 4 xg:=ls E7 (aC gO aN)
def i9:T0I->Option (T0I⊕(LDTh×T0w)):=λ(v0,v1,v2,v3,_)=>
bif decide (v2 < v1) then (((d9 v2).bind λx0=>
(dM v0 x0).bind λx1=>
bif (x1.1==1) then (bif (dY 8 v3.length (List.length [v2])) then let x2:List (Int):=(List.append v3 [v2]);
some (v0,v1,v2,x2,()) else none) else
some (v0,v1,v2,v3,()):Option (T0I)).bind λ(x0,x1,x2,x3,_)=>
let x4:=w64 (x2+1);
some (.inl (x0,x1,x4,x3,()))) else
some (.inr (v0,v1,v2,false,v3,()))
def nS(a0:LDTh):Option (LI×Unit):=
let x0:=dN a0.length;
(dU i9 NN (a0,x0,0,[],())).bind λ(x1,x2,x3,x4,x5,_)=>
some (x5,())
def EL:X.Cfg:=⟨E0,[],[],[⟨7,0,qE,[(.normal,qS [Zaa 3 9,sP 6 gH,Uaa 7,Uaa 8] [(9,zae)])]⟩,(lx 4 1 [Zaa 3 9,sP 6 gH,Uaa 7,Uaa 8] [(9,zae)] 9)]⟩
def wU:Ctr:=⟨126,41,uL [gH],[],[⟨zae,[.one],[]⟩],ap1 nS⟩
theorem D9:Lk 1 wU:=ls EL aN
def mI(a0:LDIn) (a1:List (Int)) (a2:List LI) (a3:List (Int)) (a4:Int) (a5:LDCe) (a6:LDLn) (a7:LDTh) (a8:List (Int)) (a9:List (Int)) (a10:List LI) (a11:List LDCn) (a12:LDOp) (a13:LDOu) (a14:List (Int)) (a15:List LI) (a16:LDEn) (a17:List (Int)):Option (T3j):=
bif (dY 8 0 a17.length) then let x0:List (Int):=(List.append [] a17);
bif (dY 184 0 a16.length) then let x1:LDEn:=(List.append [] a16);
some (a0,a1,a2,a3,a4,a5,a6,a7,a8,a9,a10,a11,a12,a13,a14,a15,x1,x0,()) else none else none
def Co:X.Cfg:=⟨E0,[],[(9,Ob)],[]⟩
def uS:Ctr:=⟨127,42,[.agg yaf],[],[⟨yad,[.agg 18],[]⟩],ap18 mI⟩
theorem B7:Lk 1 uS:=ls Co aN
def oC(a0:List (Int)) (a1:Int) (a2:LDCe) (a3:LDLn) (a4:LDTh) (a5:Int):Option (Bool×Unit):=
bif decide (a5 < 0) then (some (false,())) else
let x0:=dN a4.length;
bif decide (a5>=x0) then (some (false,())) else
(d9 a5).bind λx1=>
(dM a4 x1).bind λx2=>
bif (x2.1==1) then (bif (x2.2.2.2.2.1 != (-1)) then (some ((x2.2.2.2.2.2.1==(-1)),())) else
some (false,())) else
some (false,())
def IE:X.Cfg:=⟨E0,[],[],[]⟩
def vy:Ctr:=⟨128,43,[.agg zac,shU I64],[],[⟨yab,[.one],[]⟩],ap6 oC⟩
theorem AS:Lk 1 vy:=ls IE aN
def jC:T2m->Option (T2m⊕(LDLn×Int×Int×Bool×T1o)):=λ(v0,v1,v2,v3,v4,v5,v6,v7,v8,_)=>
bif decide (v2 < v1) then ((d9 v2).bind λx0=>
(dM v0 x0).bind λx1=>
bif (dY 4 0 x1.2.2.length) then let x2:LDCe:=(List.append [] x1.2.2);
let x3:LDLn:=[(x1.1,(x1.2.1,x2))];
bif (dY 40 v8.length x3.length) then let x4:LDLn:=(List.append v8 x3);
let x5:=w64 (v2+1);
some (.inl (v0,v1,x5,v3,v4,v5,v6,v7,x4,())) else none else none) else
some (.inr (v0,v1,v2,false,v3,v4,v5,v6,v7,v8,()))
def pG(a0:LDCe) (a1:LDLn):Option (T05):=
bif (dY 4 0 a0.length) then let x0:LDCe:=(List.append [] a0);
let x1:=dN a1.length;
(dU jC NN (a1,x1,0,a0,a1,(),(),x0,[],())).bind λ(x2,x3,x4,x5,x6,x7,x8,x9,ac)=>
some (ac) else none
def Hb:X.Cfg:=⟨E0,[],[(24,Tf),(25,Tf)],[(lx 4 0 [zaa 2,zaa 3,sP 11 fT,Uaa 12,Uaa 13] [(4,uae),(6,Zab),(8,Xaf)] 14)]⟩
def zf:Ctr:=⟨169,44,[.agg uae],[],[⟨Xaf,[.agg 2],[]⟩],ap2 pG⟩
theorem Gp:Lk 1 zf:=ls Hb aN
def jz:T3k->Option (T3k⊕(LDTh×Int×Int×Bool×T39)):=λ(v0,v1,v2,v3,v4,v5,v6,v7,v8,v9,v10,v11,v12,v13,v14,v15,v16,v17,_)=>
bif decide (v2 < v1) then ((d9 v2).bind λx0=>
(dM v0 x0).bind λx1=>
bif (dY 4 0 x1.2.1.length) then let x2:LDCe:=(List.append [] x1.2.1);
let x3:LDTh:=[(x1.1,(x2,(x1.2.2.1,(x1.2.2.2.1,(x1.2.2.2.2.1,(x1.2.2.2.2.2.1,(x1.2.2.2.2.2.2.1,x1.2.2.2.2.2.2.2)))))))];
bif (dY 80 v17.length x3.length) then let x4:LDTh:=(List.append v17 x3);
let x5:=w64 (v2+1);
some (.inl (v0,v1,x5,v3,v4,v5,v6,v7,v8,v9,v10,v11,v12,v13,v14,v15,v16,x4,())) else none else none) else
some (.inr (v0,v1,v2,false,v3,v4,v5,v6,v7,v8,v9,v10,v11,v12,v13,v14,v15,v16,v17,()))
def jA(a0:List (Int)) (a1:Int) (a2:LDCe) (a3:LDLn) (a4:LDTh):Option (T17):=
bif (dY 8 0 a0.length) then let x0:List (Int):=(List.append [] a0);
(pG a2 a3).bind λ(x1,x2,_)=>
let x3:=dN a4.length;
(dU jz NN (a4,x3,0,a0,a1,a2,a3,a4,(),0,(),(),(),x0,a1,x1,x2,[],())).bind λ(x4,x5,x6,x7,x8,x9,ac,ae,af,ag,ah,ai,aj,ak,am)=>
some (am) else none
def GZ:X.Cfg:=⟨E0,[zf],[(32,RZ),(33,RZ)],[(lx 4 0 [zaa 2,zaa 3,sP 19 gH,Uaa 20,Uaa 21] [(4,zac),(6,yac),(8,Zac)] 22)]⟩
def nu:Ctr:=⟨157,45,[.agg zac],[],[⟨Zac,[.agg 5],[]⟩],ap5 jA⟩
theorem pS:Lk 2 nu:=ls GZ (aC Gp aN)
def ly(a0:List (Int)) (a1:Int) (a2:LDCe) (a3:LDLn) (a4:LDTh) (a5:Int):Option (T1s):=
(jA a0 a1 a2 a3 a4).bind λ(x0,x1,x2,x3,x4,_)=>
(oC a0 a1 a2 a3 a4 a5).bind λ(x5,_)=>
bif (!x5) then (some (x0,x1,x2,x3,x4,false,())) else
(d9 a5).bind λx6=>
(dM x4 x6).bind λx7=>
(dM x4 x6).bind λx8=>
(dM x4 x6).bind λx9=>
(dM x4 x6).bind λac=>
let ae:=(List.modify x4 x6 λe=>(e.1,(e.2.1,(e.2.2.1,(e.2.2.2.1,(e.2.2.2.2.1,(x8.2.2.1,e.2.2.2.2.2.2)))))));
(dM ae x6).bind λaf=>
let ag:=(List.modify ae x6 λe=>(e.1,(e.2.1,(x9.2.2.2.2.1,e.2.2.2))));
some (x0,x1,x2,x3,ag,true,())
def Ba:X.Cfg:=⟨E0,[nu,vy],[],[]⟩
def tM:Ctr:=⟨129,46,[.agg zac,shU I64],[],[⟨Xak,[.agg 5,.one],[]⟩],ap6 ly⟩
theorem AR:Lk 3 tM:=ls Ba (aC pS (aC AS aN))
def lJ(a0:Int) (a1:Int):Option (Bool×Unit):=
some ((decide (a0<=2)),())
def EZ:X.Cfg:=⟨E0,[],[],[]⟩
def rW:Ctr:=⟨114,47,[.agg uac],[],[⟨yab,[.one],[]⟩],ap2 lJ⟩
theorem wm:Lk 1 rW:=ls EZ aN
def mO:T0k->Option (T0k⊕((Bool×Unit)⊕T0E)):=λ(v0,v1,v2,_)=>
bif decide (v2 < v1) then ((d9 v2).bind λx0=>
(dM v0 x0).bind λx1=>
(lJ x1.1 x1.2).bind λ(x2,_)=>
bif (!x2) then (some (.inr (.inl (false,())))) else
let x3:=w64 (v2+1);
some (.inl (v0,v1,x3,()))) else
some (.inr (.inr (v0,v1,v2,false,())))
def oH(a0:LDCe):Option (Bool×Unit):=
let x0:=dN a0.length;
(match dU mO NN (a0,x0,0,()) with
| none=>none
| some (.inl (x1,_))=>
some (x1,())
| some (.inr (x1,_))=>
some (true,()))
def IL:X.Cfg:=⟨E0,[rW],[],[⟨3,0,qS [sP 5 fi,Uaa 6,Uaa 7] [],[(.ret,qS [Xaa 2] []),(.exit 0,qS [sP 5 fi,Uaa 6,Uaa 7,Xaa 8] [])]⟩]⟩
def BJ:Ctr:=⟨113,48,uL [fi],[],[⟨yab,[.one],[]⟩],ap1 oH⟩
theorem Iw:Lk 2 BJ:=ls IL (aC wm aN)
def kI:LDLn×T0z->Option ((LDLn×T0z)⊕((Bool×Unit)⊕(LDLn×Int×Int×Bool×T05))):=λ(v0,v1,v2,v3)=>
bif decide (v2 < v1) then ((d9 v2).bind λx0=>
(dM v0 x0).bind λx1=>
bif (x1.1==(-1)) then (bif x1.2.1 then (some (.inr (.inl (false,())))) else
let x2:=dN x1.2.2.length;
bif decide (x2 > 0) then (some (.inr (.inl (false,())))) else
let x3:=w64 (v2+1);
some (.inl (v0,v1,x3,v3))) else
(bif decide (x1.1 < 0) then (some (v0,v1,v2,true,v3)) else
bif decide (x1.1>=128) then (some (v0,v1,v2,true,v3)) else
let x2:=Int.tmod x1.1 4;
bif (x2 != v2) then (some (v0,v1,v2,true,v3)) else
let x3:=dN x1.2.2.length;
bif (x3 != 4) then (some (v0,v1,v2,true,v3)) else
(oH x1.2.2).bind λ(x4,_)=>
some (v0,v1,v2,(!x4),v3):Option (LDLn×Int×Int×Bool×T05)).bind λ(x2,x3,x4,x5,x6)=>
bif x5 then (some (.inr (.inl (false,())))) else
let x8:=w64 (x4+1);
some (.inl (x2,x3,x8,x6))) else
some (.inr (.inr (v0,v1,v2,false,v3)))
def nV(a0:LDCe) (a1:LDLn):Option (Bool×Unit):=
(let x0:=dN a0.length;
bif (x0 != 512) then (some (true,a0,a1,())) else
let x1:=dN a1.length;
bif (x1 != 4) then (some (true,a0,a1,())) else
(oH a0).bind λ(x2,_)=>
some ((!x2),a0,a1,()):Option (Bool×T05)).bind λ(x0,x1,x2,_)=>
bif x0 then (some (false,())) else
let x3:=dN x2.length;
(match dU kI NN (x2,x3,0,x1,x2,()) with
| none=>none
| some (.inl (x4,_))=>
some (x4,())
| some (.inr (x4,_))=>
some (true,()))
def ET:X.Cfg:=⟨E0,[BJ],[],[⟨2,0,qE,[(.normal,qS [zaa 1,Xaa 20] [(4,uae)])]⟩,⟨16,1,qE,[(.normal,qS [sP 22 fT,Uaa 23,Uaa 24,Xaa 66] [(4,uae)])]⟩,⟨6,2,qS [sP 22 fT,Uaa 23,Uaa 24] [(4,uae)],[(.ret,qS [Xaa 2] []),(.exit 0,qS [sP 22 fT,Uaa 23,Uaa 24,Xaa 25] [(4,uae)])]⟩]⟩
def wZ:Ctr:=⟨71,49,[.agg uae],[],[⟨yab,[.one],[]⟩],ap2 nV⟩
theorem Ee:Lk 3 wZ:=ls ET (aC Iw aN)
def kD:T2K->Option (T2K⊕((Bool×Unit)⊕(LDCe×Int×Int×Bool×T24))):=λ(v0,v1,v2,v3)=>
bif decide (v2 < v1) then ((d9 v2).bind λx0=>
(dM v0 x0).bind λx1=>
(lJ x1.1 x1.2).bind λ(x2,_)=>
bif (!x2) then (some (.inr (.inl (false,())))) else
let x3:=w64 (v2+1);
some (.inl (v0,v1,x3,v3))) else
some (.inr (.inr (v0,v1,v2,false,v3)))
def nR(a0:Int) (a1:LDCe) (a2:Int) (a3:Int) (a4:Int) (a5:Int) (a6:Int) (a7:Int):Option (Bool×Unit):=
let x0:=dN a1.length;
(match dU kD NN (a1,x0,0,a0,a1,a2,a3,a4,a5,a6,a7,()) with
| none=>none
| some (.inl (x1,_))=>
some (x1,())
| some (.inr (x1,x2,x3,x4,x5,x6,x7,x8,x9,ac,ae,af,_))=>
bif decide (x5>=0) then (bif decide (x5<=4) then (let ag:Int:=(dN x6.length);
bif (ag==8) then (bif decide (x7>=0) then (bif decide (x7<=255) then (bif decide (x8>=0) then (bif decide (x8<=1099511627776) then (bif (decide (x9>=(-1))) then (bif decide (x9<=255) then (bif (decide (ac>=(-1))) then (bif decide (ac<=255) then (bif decide (ae>=0) then (some ((decide (ae<=6)),())) else
some (false,())) else
some (false,())) else
some (false,())) else
some (false,())) else
some (false,())) else
some (false,())) else
some (false,())) else
some (false,())) else
some (false,())) else
some (false,())) else
some (false,())) else
some (false,()))
def EK:X.Cfg:=⟨E0,[rW],[],[⟨3,0,qS [zaa 1,sP 6 fi,Uaa 7,Uaa 8] [(4,Uad)],[(.ret,qS [Xaa 2] []),(.exit 0,qS [zaa 1,sP 6 fi,Uaa 7,Uaa 8,Xaa 9] [(4,Uad)])]⟩]⟩
def wT:Ctr:=⟨72,50,[.agg Uad],[],[⟨yab,[.one],[]⟩],ap8 nR⟩
theorem D8:Lk 2 wT:=ls EK (aC wm aN)
def nC:T26->Option (T26⊕((Bool×Unit)⊕(LDTh×Int×Int×T1d))):=λ(v0,v1,v2,v3)=>
bif decide (v2 < v1) then ((d9 v2).bind λx0=>
(dM v0 x0).bind λx1=>
(nR x1.1 x1.2.1 x1.2.2.1 x1.2.2.2.1 x1.2.2.2.2.1 x1.2.2.2.2.2.1 x1.2.2.2.2.2.2.1 x1.2.2.2.2.2.2.2).bind λ(x2,_)=>
bif (!x2) then (some (.inr (.inl (false,())))) else
let x3:=w64 (v2+1);
some (.inl (v0,v1,x3,v3))) else
some (.inr (.inr (v0,v1,v2,false,v3)))
def jT(a0:LDIn) (a1:List (Int)) (a2:List LI) (a3:List (Int)) (a4:Int) (a5:LDCe) (a6:LDLn) (a7:LDTh):Option (Bool×Unit):=
((iX a0 a1 a2).bind λ(x0,_)=>
bif (x0 != 0) then (some (true,a3,a4,a5,a6,a7,())) else
(iY a3 a4 a1).bind λ(x1,_)=>
bif (!x1) then (some (true,a3,a4,a5,a6,a7,())) else
(nV a5 a6).bind λ(x2,_)=>
bif (!x2) then (some (true,a3,a4,a5,a6,a7,())) else
let x3:=dN a7.length;
some ((x3 != 4),a3,a4,a5,a6,a7,()):Option (T1d)).bind λ(x0,x1,x2,x3,x4,x5,_)=>
bif x0 then (some (false,())) else
let x6:=dN x5.length;
(match dU nC NN (x5,x6,0,x1,x2,x3,x4,x5,()) with
| none=>none
| some (.inl (x7,_))=>
some (x7,())
| some (.inr (x7,_))=>
some (true,()))
def EI:X.Cfg:=⟨E0,[oi,l8,wZ,wT],[],[⟨2,0,qE,[(.normal,qS [zaa 3,Xaa 29] [(8,zac)])]⟩,⟨6,1,qS [sP 31 gH,Uaa 32,Uaa 33] [(8,zac)],[(.ret,qS [Xaa 4] []),(.exit 0,qS [sP 31 gH,Uaa 32,Uaa 33,Xaa 34] [(8,zac)])]⟩]⟩
def oh:Ctr:=⟨25,51,[.agg uab,.agg zac],[],[⟨yab,[.one],[]⟩],ap8 jT⟩
theorem rA:Lk 4 oh:=ls EI (aC rB (aC oa (aC Ee (aC D8 aN))))
def fM(a0:Nat) (a1:Int) (a2:LDTh):Option (Int×LDTh×Unit):=
(dM a2 a0).bind λx0=>
let x1:=List.modify a2 a0 λe=>(4,e.2);
(dM x1 a0).bind λx2=>
let x3:=(List.modify x1 a0 λe=>(e.1,(e.2.1,(e.2.2.1,(e.2.2.2.1,(e.2.2.2.2.1,(e.2.2.2.2.2.1,(a1,e.2.2.2.2.2.2.2))))))));
(dM x3 a0).bind λx4=>
let x5:=(List.modify x3 a0 λe=>(e.1,(e.2.1,(e.2.2.1,(e.2.2.2.1,(e.2.2.2.2.1,(e.2.2.2.2.2.1,(e.2.2.2.2.2.2.1,0))))))));
some (2,x5,())
def GW:X.Cfg:=⟨E0,[],[],[]⟩
def zb:Ctr:=⟨183,52,[.ptr ⟨2,0,[((),(8,0))]⟩ [0,0],shU I64],[(2,uL [sJ])],[⟨Xac,[.one],[(2,uL [sJ])]⟩],ap3 fM⟩
theorem Gl:Lk 1 zb:=ls GW aN
def eO:T2o->Option (T2o⊕(T0d⊕T2D)):=λ(v0,v1,v2,v3,v4,v5)=>
bif decide (v4 < v3) then ((match ((d9 v4).bind λx0=>
(dM v2 x0).bind λx1=>
bif decide (v1>=x1) then ((d9 v4).bind λx2=>
(dM v0 x2).bind λx3=>
let x4:=w64 (x1+x3);
bif decide (v1 < x4) then (let x5:Int:=(w64 (v1 - x1));
some (.inl (true,v4,x5,()))) else
some (.inr (v0,v1,v4,x1,v2,v3,v4,false,v5))) else
some (.inr (v0,v1,v4,x1,v2,v3,v4,false,v5)):Option (T0d⊕T2X)) with
| none=>none
| some (.inl (x0,x1,x2,_))=>
some (.inr (.inl (x0,x1,x2,())))
| some (.inr (x0,x1,x2,x3,x4,x5,x6,x7,x8))=>
let af:=w64 (x6+1);
some (.inl (x0,x1,x4,x5,af,x8)))) else
some (.inr (.inr (v0,v1,v2,v3,v4,false,v5)))
def fw(a0:List (Int)) (a1:Int) (a2:List (Int)) (a3:Int):Option (T0e):=
let x0:=dN a0.length;
(match dU eO NN (a2,a3,a0,x0,0,a0,a1,0,0,()) with
| none=>none
| some (.inl (x1,x2,x3,_))=>
some (x2,x3,x1,())
| some (.inr (x1,x2,x3,_))=>
some (0,0,false,()))
def Be:X.Cfg:=⟨E0,[],[],[⟨6,0,qE,[(.ret,qS [zaa 6,Xaa 7] [(14,Uac)]),(.normal,qS [sP 1 RI,Uaa 2,zaa 6,Uaa 8,Uaa 9,sP 11 RI,Uaa 12,Uaa 13,Xaa 30] [(8,Uab),(14,Uac)])]⟩,⟨3,1,qS [sP 1 RI,Uaa 2,zaa 6,sP 11 RI,Uaa 12,Uaa 13] [(8,Uab),(14,Uac)],[(.ret,qS [zaa 6,Xaa 7] [(14,Uac)]),(.exit 0,qS [sP 1 RI,Uaa 2,zaa 6,sP 11 RI,Uaa 12,Uaa 13,Xaa 14] [(8,Uab),(14,Uac)])]⟩]⟩
def jN:Ctr:=⟨83,53,[.agg Uab,shU RI,shU I64],[],[⟨uai,[.agg 2,.one],[]⟩],ap4 fw⟩
theorem lT:Lk 1 jN:=ls Be aN
def fY(a0:List (Int)) (a1:Int) (a2:List (Int)) (a3:Int) (a4:Int) (a5:Int) (a6:Bool):Option (T0f):=
bif (a3 != 1) then (some (0,0,3,())) else
let x0:=wk .i64 a4;
(fw a0 a1 a2 x0).bind λ(x1,x2,x3,_)=>
bif (!x3) then (some (0,0,4,())) else
(bif a6 then (let x4:Int:=(wk .i64 a5);
let x5:=w64 (x2 - x4);
some (a2,a0,a1,0,0,x1,x5,())) else
let x4:=wk .i64 a5;
let x5:=w64 (x2+x4);
some (a2,a0,a1,0,0,x1,x5,()):Option (LI×LI×T0Z)).bind λ(x4,x5,x6,x7,x8,x9,ac,_)=>
(gE x4 x9 ac).bind λ(ae,_)=>
bif (!ae) then (some (0,0,4,())) else
(d9 x9).bind λaf=>
(dM x5 af).bind λag=>
let ah:=w64 (ag+ac);
let ai:=wk .u16 ah;
some (1,ai,0,())
def GY:X.Cfg:=⟨E0,[jN,kt],[],[⟨8,0,qE,[(.normal,qS [sP 1 RI,zaa 5,zaa 10,zaa 12] [(12,Uab),(22,uac),(26,Uac)])]⟩]⟩
def tS:Ctr:=⟨184,54,[.agg Uab,shU RI,.agg uac,shU CW,shU .bool],[],[⟨Xai,[.agg 2,.one],[]⟩],ap7 fY⟩
theorem yE:Lk 2 tS:=ls GY (aC lT (aC mZ aN))
def lH(a0:Int) (a1:LDCe) (a2:LDLn):Option (Nat×T05):=
let x0:=w64 (Int.tdiv a0 4);
let x1:=Int.tmod x0 4;
(d9 x1).bind λx2=>
(dM a2 x2).bind λx3=>
(dM a2 x2).bind λx4=>
bif (x4.1==x0) then (some (x2,a1,a2,())) else
((dM a2 x2).bind λx5=>
bif x5.2.1 then ((dM a2 x2).bind λx6=>
let x7:=w64 (x6.1*4);
(d9 x7).bind λx8=>
bif (iQ x8 a1.length a1.length) then (dM a2 x2).bind λx9=>
(dM a2 x2).bind λac=>
bif (iQ x8 (Nat.add x8 (Nat.min ac.2.2.length (Nat.sub a1.length x8))) a1.length) then bif (Nat.blt 0 (Nat.min ac.2.2.length (Nat.sub a1.length x8))) then (let ae:LDCe:=(s6 a1 x8 (Nat.min ac.2.2.length (Nat.sub a1.length x8)) ac.2.2);
let af:=(dN (Nat.min ac.2.2.length (Nat.sub a1.length x8)));
some (x0,x2,ae,a2,())) else
let ae:=(dN (Nat.min ac.2.2.length (Nat.sub a1.length x8)));
some (x0,x2,a1,a2,()) else none else none) else
some (x0,x2,a1,a2,()):Option (Int×Nat×T05)).bind λ(x5,x6,x7,x8,_)=>
(dM x8 x6).bind λx9=>
let ac:=List.modify x8 x6 λe=>(x5,e.2);
(dM ac x6).bind λae=>
let af:=(List.modify ac x6 λe=>(e.1,(false,e.2.2)));
let ag:=w64 (x5*4);
let ah:=w64 (x5+1);
let ai:=w64 (ah*4);
(d9 ag).bind λaj=>
(d9 ai).bind λak=>
bif (iQ aj ak x7.length) then bif (dY 4 0 (List.length (m8 x7 aj (Nat.sub ak aj)))) then let am:LDCe:=(List.append [] (m8 x7 aj (Nat.sub ak aj)));
(dM af x6).bind λan=>
let ap:=(List.modify af x6 λe=>(e.1,(e.2.1,am)));
some (x6,x7,ap,()) else none else none
def ES:X.Cfg:=⟨E0,[],[],[⟨6,0,qE,[(.normal,(qS [zaa 0,Uaa 5,(6,.ptr ⟨2,1,[((),(3,0))]⟩ [0,0])] [(2,Xaf)]))]⟩]⟩
def rT:Ctr:=⟨200,55,[.ptr ⟨2,0,[]⟩ [0],shU I64],[(2,Xaf)],[⟨[.ptr ⟨2,1,[((),(3,0))]⟩ [0,0]],[.ptr],[(2,Xaf)]⟩],ap3 lH⟩
theorem wi:Lk 1 rT:=ls ES aN
def pE(a0:Int) (a1:LDCe) (a2:LDLn):Option (T0z):=
(lH a0 a1 a2).bind λ(x0,x1,x2,_)=>
(dM x2 x0).bind λx3=>
let x4:=Int.tmod a0 4;
(d9 x4).bind λx5=>
(dM x2 x0).bind λx6=>
(dM x6.2.2 x5).bind λx7=>
(dM x2 x0).bind λx8=>
(dM x8.2.2 x5).bind λx9=>
some (x9.1,x9.2,x1,x2,())
def G9:X.Cfg:=⟨E0,[rT],[],[]⟩
def zd:Ctr:=⟨185,56,[.ptr ⟨2,0,[]⟩ [0],shU I64],[(2,Xaf)],[⟨uac,[.agg 2],[(2,Xaf)]⟩],ap3 pE⟩
theorem Gm:Lk 2 zd:=ls G9 (aC wi aN)
def lF(a0:Int) (a1:Int) (a2:Int) (a3:LDCe) (a4:LDLn):Option (T05):=
(lH a0 a3 a4).bind λ(x0,x1,x2,_)=>
(dM x2 x0).bind λx3=>
let x4:=Int.tmod a0 4;
(d9 x4).bind λx5=>
(dM x2 x0).bind λx6=>
(dM x6.2.2 x5).bind λx7=>
(dM x2 x0).bind λx8=>
(dM x8.2.2 x5).bind λx9=>
let ac:=(List.modify x2 x0 λe=>(e.1,(e.2.1,(List.modify e.2.2 x5 λe=>(a1,a2)))));
(dM ac x0).bind λae=>
let af:=(List.modify ac x0 λe=>(e.1,(true,e.2.2)));
some (x1,af,())
def ER:X.Cfg:=⟨E0,[rT],[],[]⟩
def rS:Ctr:=⟨186,57,[.ptr ⟨2,0,[]⟩ [0],shU I64,.agg uac],[(2,Xaf)],[⟨[],[],[(2,Xaf)]⟩],ap5 lF⟩
theorem wh:Lk 2 rS:=ls ER (aC wi aN)
def kY(a0:Bool):Option (T02):=
bif a0 then (some (0,1,())) else
some (0,0,())
def GX:X.Cfg:=⟨E0,[],[],[]⟩
def tR:Ctr:=⟨201,58,yab,[],[⟨uac,[.agg 2],[]⟩],ap1 kY⟩
theorem yD:Lk 1 tR:=ls GX aN
def lD(a0:Int) (a1:Int) (a2:Int):Option (T0f):=
bif (a0==3) then (let x0:Int:=(wk .u16 (a1+a2));
some (0,x0,0,())) else
bif (a0==4) then (let x0:Int:=(wk .u16 (a1 - a2));
some (0,x0,0,())) else
bif (a0==5) then (let x0:Int:=(wk .u16 (a1*a2));
some (0,x0,0,())) else
bif (a0==6) then (bif (a2==0) then (some (0,0,5,())) else
bif (a0==6) then (bif (a2 != 0) then let x0:Int:=(wk .u16 (Int.tdiv a1 a2));
some (0,x0,0,()) else none) else
bif (a2 != 0) then let x0:Int:=(Int.tmod a1 a2);
some (0,x0,0,()) else none) else
bif (a0==7) then (bif (a2==0) then (some (0,0,5,())) else
bif (a0==6) then (bif (a2 != 0) then let x0:Int:=(wk .u16 (Int.tdiv a1 a2));
some (0,x0,0,()) else none) else
bif (a2 != 0) then let x0:Int:=(Int.tmod a1 a2);
some (0,x0,0,()) else none) else
bif (a0==8) then (let x0:Int:=(arR .and .u16 a1 a2);
some (0,x0,0,())) else
bif (a0==9) then (let x0:Int:=(arR .or .u16 a1 a2);
some (0,x0,0,())) else
bif (a0==10) then (let x0:Int:=(arR .xor .u16 a1 a2);
some (0,x0,0,())) else
bif (a0==11) then (let x0:Int:=(Int.tmod a2 16);
(d9 x0).bind λx1=>
let x2:Int:=(shR .shl .u16 a1 x1);
some (0,x2,0,())) else
bif (a0==12) then (let x0:Int:=(Int.tmod a2 16);
(d9 x0).bind λx1=>
let x2:Int:=(shR .shr .u16 a1 x1);
some (0,x2,0,())) else
(kY (decide (a1 < a2))).bind λ(x0,x1,_)=>
some (x0,x1,0,())
def Bc:X.Cfg:=⟨E0,[tR],[],[]⟩
def tQ:Ctr:=⟨202,59,uL [I64,CW,CW],[],[⟨Xai,[.agg 2,.one],[]⟩],ap3 lD⟩
theorem AU:Lk 2 tQ:=ls Bc (aC yD aN)
def lE(a0:List (Int)) (a1:Int) (a2:List (Int)) (a3:Int) (a4:Int) (a5:Int) (a6:Int):Option (Int×Int×T0e):=
let x0:=wk .i64 a4;
(fw a0 a1 a2 x0).bind λ(x1,x2,x3,_)=>
let x4:=wk .i64 a6;
(fw a0 a1 a2 x4).bind λ(x5,x6,x7,_)=>
bif x3 then (bif x7 then (some (x1,x2,x5,x6,(x1==x5),())) else
some (x1,x2,x5,x6,false,())) else
some (x1,x2,x5,x6,false,())
def EN:X.Cfg:=⟨E0,[jN],[],[]⟩
def wW:Ctr:=⟨203,60,[.agg Uab,shU RI,.agg uac,.agg uac],[],[⟨uL [I64,I64,I64,I64,.bool],[.agg 2,.agg 2,.one],[]⟩],ap7 lE⟩
theorem Eb:Lk 2 wW:=ls EN (aC lT aN)
def ue(a0:List (Int)) (a1:Int) (a2:List (Int)) (a3:Int) (a4:Int) (a5:Int) (a6:Int) (a7:Int):Option (T0f):=
bif decide (a3 < 3) then (some (0,0,1,())) else
bif decide (a3 > 14) then (some (0,0,1,())) else
(match (bif (a3==14) then ((kY ((a4==a6) && ((a5==a7) && true))).bind λ(x0,x1,_)=>
some (.inl (0,x0,x1,()))) else
bif (a4==0) then (bif (a6==0) then ((lD a3 a5 a7).bind λ(x0,x1,x2,_)=>
some (.inl (x2,x0,x1,()))) else
(bif (a3==3) then (bif (a4==1) then (some (a2,a3,(a6==0),a0,a1,a4,a5,a6,a7,0,0,())) else
some (a2,a3,false,a0,a1,a4,a5,a6,a7,0,0,())) else
some (a2,a3,false,a0,a1,a4,a5,a6,a7,0,0,()):Option (T2M)).bind λ(x0,x1,x2,x3,x4,x5,x6,x7,x8,x9,ac,_)=>
bif x2 then ((fY x3 x4 x0 x5 x6 x8 false).bind λ(ae,af,ag,_)=>
some (.inl (ag,ae,af,()))) else
(bif (x1==3) then (bif (x5==0) then (some (x0,x1,(x7==1),x3,x4,x5,x6,x7,x8,x9,ac,())) else
some (x0,x1,false,x3,x4,x5,x6,x7,x8,x9,ac,())) else
some (x0,x1,false,x3,x4,x5,x6,x7,x8,x9,ac,()):Option (T2M)).bind λ(ae,af,ag,ah,ai,aj,ak,am,an,ap,aq,_)=>
bif ag then ((fY ah ai ae am an ak false).bind λ(av,ax,ay,_)=>
some (.inl (ay,av,ax,()))) else
(bif (af==4) then (bif (aj==1) then (some (ae,af,(am==0),ah,ai,aj,ak,am,an,ap,aq,())) else
some (ae,af,false,ah,ai,aj,ak,am,an,ap,aq,())) else
some (ae,af,false,ah,ai,aj,ak,am,an,ap,aq,()):Option (T2M)).bind λ(av,ax,ay,az,aA,aB,aD,aE,aF,aG,aH,_)=>
bif ay then ((fY az aA av aB aD aF true).bind λ(aI,aJ,aK,_)=>
some (.inl (aK,aI,aJ,()))) else
(bif (ax==4) then (bif (aB==1) then (some (av,ax,(aE==1),az,aA,aB,aD,aE,aF,aG,aH,())) else
some (av,ax,false,az,aA,aB,aD,aE,aF,aG,aH,())) else
bif (ax==13) then (bif (aB==1) then (some (av,ax,(aE==1),az,aA,aB,aD,aE,aF,aG,aH,())) else
some (av,ax,false,az,aA,aB,aD,aE,aF,aG,aH,())) else
some (av,ax,false,az,aA,aB,aD,aE,aF,aG,aH,()):Option (T2M)).bind λ(aI,aJ,aK,aL,aM,aO,aP,aQ,aR,aS,aT,_)=>
bif aK then ((lE aL aM aI aO aP aQ aR).bind λ(aU,aV,aW,aY,aZ,_)=>
bif (!aZ) then (some (.inl (4,0,0,()))) else
bif (aJ==13) then ((kY (decide (aV < aY))).bind λ(ba,bc,_)=>
some (.inl (0,ba,bc,()))) else
let ba:=w64 (aV - aY);
let bc:=wk .u16 ba;
some (.inl (0,0,bc,()))) else
some (.inr (aI,aJ,false,aL,aM,aO,aP,aQ,aR,aS,aT,()))) else
(bif (a3==3) then (bif (a4==1) then (some (a2,a3,(a6==0),a0,a1,a4,a5,a6,a7,0,0,())) else
some (a2,a3,false,a0,a1,a4,a5,a6,a7,0,0,())) else
some (a2,a3,false,a0,a1,a4,a5,a6,a7,0,0,()):Option (T2M)).bind λ(x0,x1,x2,x3,x4,x5,x6,x7,x8,x9,ac,_)=>
bif x2 then ((fY x3 x4 x0 x5 x6 x8 false).bind λ(ae,af,ag,_)=>
some (.inl (ag,ae,af,()))) else
(bif (x1==3) then (bif (x5==0) then (some (x0,x1,(x7==1),x3,x4,x5,x6,x7,x8,x9,ac,())) else
some (x0,x1,false,x3,x4,x5,x6,x7,x8,x9,ac,())) else
some (x0,x1,false,x3,x4,x5,x6,x7,x8,x9,ac,()):Option (T2M)).bind λ(ae,af,ag,ah,ai,aj,ak,am,an,ap,aq,_)=>
bif ag then ((fY ah ai ae am an ak false).bind λ(av,ax,ay,_)=>
some (.inl (ay,av,ax,()))) else
(bif (af==4) then (bif (aj==1) then (some (ae,af,(am==0),ah,ai,aj,ak,am,an,ap,aq,())) else
some (ae,af,false,ah,ai,aj,ak,am,an,ap,aq,())) else
some (ae,af,false,ah,ai,aj,ak,am,an,ap,aq,()):Option (T2M)).bind λ(av,ax,ay,az,aA,aB,aD,aE,aF,aG,aH,_)=>
bif ay then ((fY az aA av aB aD aF true).bind λ(aI,aJ,aK,_)=>
some (.inl (aK,aI,aJ,()))) else
(bif (ax==4) then (bif (aB==1) then (some (av,ax,(aE==1),az,aA,aB,aD,aE,aF,aG,aH,())) else
some (av,ax,false,az,aA,aB,aD,aE,aF,aG,aH,())) else
bif (ax==13) then (bif (aB==1) then (some (av,ax,(aE==1),az,aA,aB,aD,aE,aF,aG,aH,())) else
some (av,ax,false,az,aA,aB,aD,aE,aF,aG,aH,())) else
some (av,ax,false,az,aA,aB,aD,aE,aF,aG,aH,()):Option (T2M)).bind λ(aI,aJ,aK,aL,aM,aO,aP,aQ,aR,aS,aT,_)=>
bif aK then ((lE aL aM aI aO aP aQ aR).bind λ(aU,aV,aW,aY,aZ,_)=>
bif (!aZ) then (some (.inl (4,0,0,()))) else
bif (aJ==13) then ((kY (decide (aV < aY))).bind λ(ba,bc,_)=>
some (.inl (0,ba,bc,()))) else
let ba:=w64 (aV - aY);
let bc:=wk .u16 ba;
some (.inl (0,0,bc,()))) else
some (.inr (aI,aJ,false,aL,aM,aO,aP,aQ,aR,aS,aT,())):Option (T0f⊕T2M)) with
| none=>none
| some (.inl (x0,x1,x2,_))=>
some (x1,x2,x0,())
| some (.inr (x0,x1,x2,x3,x4,x5,x6,x7,x8,x9,ac,_))=>
some (0,0,3,()))
def Lo:X.Cfg:=⟨E0,[tR,tQ,tS,wW],[],[⟨9,0,qE,[(.normal,qS [sP 1 RI,Uaa 2,zaa 5,zaa 8,zaa 9,zaa 10,Xaa 46] [(12,Uab),(18,uac),(20,uac),(22,uac)])]⟩,⟨11,1,qE,[(.normal,qS [sP 1 RI,Uaa 2,zaa 5,zaa 8,zaa 9,zaa 10,Xaa 67] [(12,Uab),(18,uac),(20,uac),(22,uac)])]⟩,⟨13,2,qE,[(.normal,qS [sP 1 RI,Uaa 2,zaa 5,zaa 8,zaa 9,zaa 10,Xaa 88] [(12,Uab),(18,uac),(20,uac),(22,uac)])]⟩,⟨15,3,qE,[(.normal,qS [sP 1 RI,Uaa 2,zaa 5,zaa 8,zaa 9,zaa 10,Xaa 109] [(12,Uab),(18,uac),(20,uac),(22,uac)])]⟩,⟨4,4,qE,[(.ret,qS [zaa 10,Uaa 11] [(22,uac)]),(.normal,qS [sP 1 RI,Uaa 2,zaa 5,zaa 8,zaa 9,zaa 10,Xaa 109] [(12,Uab),(18,uac),(20,uac),(22,uac)])]⟩]⟩
def Du:Ctr:=⟨187,61,[.agg Uab,shU RI,shU I64,.agg uac,.agg uac],[],[⟨Xai,[.agg 2,.one],[]⟩],ap8 ue⟩
theorem Lg:Lk 3 Du:=ls Lo (aC yD (aC AU (aC yE (aC Eb aN))))
def mN(a0:Int):Option (Bool×Unit):=
(hU a0).bind λ(x0,_)=>
bif x0 then (some (true,())) else
bif (a0==22) then (some (true,())) else
some ((a0==24),())
def Cw:X.Cfg:=⟨E0,[ld],[],[]⟩
def uX:Ctr:=⟨188,62,Xac,[],[⟨yab,[.one],[]⟩],ap1 mN⟩
theorem Cc:Lk 2 uX:=ls Cw (aC nk aN)
def rh(a0:LDIn) (a1:List (Int)) (a2:List LI) (a3:Int) (a4:List (Int)) (a5:Int) (a6:LDCe) (a7:LDLn) (a8:LDTh):Option (T1m):=
(d9 a3).bind λx0=>
(dM a8 x0).bind λx1=>
(dM a8 x0).bind λx2=>
let x3:=dN a0.length;
bif decide (x2.2.2.1>=x3) then ((fM x0 2 a8).bind λ(x4,x5,_)=>
some (x4,a4,a5,a6,a7,x5,())) else
(dM a8 x0).bind λx4=>
(d9 x4.2.2.1).bind λx5=>
(dM a0 x5).bind λx6=>
(dM a8 x0).bind λx7=>
let x8:=w64 (x7.2.2.1+1);
(dM a8 x0).bind λx9=>
(d9 x6.2.1).bind λac=>
(dM a8 x0).bind λae=>
(dM ae.2.1 ac).bind λaf=>
(dM a8 x0).bind λag=>
(dM ag.2.1 ac).bind λah=>
(dM a8 x0).bind λai=>
(d9 x6.2.2.1).bind λaj=>
(dM a8 x0).bind λak=>
(dM ak.2.1 aj).bind λam=>
(dM a8 x0).bind λan=>
(dM an.2.1 aj).bind λap=>
(match (bif (x6.1==0) then (some (.inl (x0,x8,a4,a5,a6,a7,a8,x6.1,x6.2.1,x6.2.2.1,x6.2.2.2.1,x6.2.2.2.2,()))) else
bif (x6.1==1) then ((dM a8 x0).bind λaq=>
let av:=wk .u16 x6.2.2.2.2;
(d9 x6.2.1).bind λax=>
(dM a8 x0).bind λay=>
(dM ay.2.1 ax).bind λaz=>
(dM a8 x0).bind λaA=>
(dM aA.2.1 ax).bind λaB=>
let aD:=(List.modify a8 x0 λe=>(e.1,((List.modify e.2.1 ax λe=>(0,av)),e.2.2)));
some (.inl (x0,x8,a4,a5,a6,a7,aD,x6.1,x6.2.1,x6.2.2.1,x6.2.2.2.1,x6.2.2.2.2,()))) else
bif (x6.1==2) then ((dM a8 x0).bind λaq=>
(d9 x6.2.1).bind λav=>
(dM a8 x0).bind λax=>
(dM ax.2.1 av).bind λay=>
(dM a8 x0).bind λaz=>
(dM az.2.1 av).bind λaA=>
let aB:=(List.modify a8 x0 λe=>(e.1,((List.modify e.2.1 av λe=>(ap.1,ap.2)),e.2.2)));
some (.inl (x0,x8,a4,a5,a6,a7,aB,x6.1,x6.2.1,x6.2.2.1,x6.2.2.2.1,x6.2.2.2.2,()))) else
bif (x6.1==15) then ((dM a8 x0).bind λaq=>
(d9 x6.2.2.2.2).bind λav=>
(dM a4 av).bind λax=>
let ay:=wk .u16 ax;
(d9 x6.2.1).bind λaz=>
(dM a8 x0).bind λaA=>
(dM aA.2.1 az).bind λaB=>
(dM a8 x0).bind λaD=>
(dM aD.2.1 az).bind λaE=>
let aF:=(List.modify a8 x0 λe=>(e.1,((List.modify e.2.1 az λe=>(1,ay)),e.2.2)));
some (.inl (x0,x8,a4,a5,a6,a7,aF,x6.1,x6.2.1,x6.2.2.1,x6.2.2.2.1,x6.2.2.2.2,()))) else
bif (x6.1==16) then ((bif (x6.1==17) then (some (x0,x8,a4,a5,a6,a7,a8,a0,a1,a2,x6.1,x6.2.1,x6.2.2.1,x6.2.2.2.1,x6.2.2.2.2,ap.1,ap.2,ah.1,ah.2,())) else
some (x0,x8,a4,a5,a6,a7,a8,a0,a1,a2,x6.1,x6.2.1,x6.2.2.1,x6.2.2.2.1,x6.2.2.2.2,ap.1,ap.2,ap.1,ap.2,()):Option (T3o)).bind λ(aq,av,ax,ay,az,aA,aB,aD,aE,aF,aG,aH,aI,aJ,aK,aL,aM,aO,aP,_)=>
let aQ:=wk .u16 aK;
(fY ax ay aE aO aP aQ false).bind λ(aR,aS,aT,_)=>
bif (aT != 0) then ((fM aq aT aB).bind λ(aU,aV,_)=>
some (.inr (aU,ax,ay,az,aA,aV,()))) else
bif (aG==16) then ((dM aB aq).bind λaU=>
let aV:=wk .i64 aS;
(pE aV az aA).bind λ(aW,aY,aZ,ba,_)=>
(d9 aH).bind λbc=>
(dM aB aq).bind λbd=>
(dM bd.2.1 bc).bind λbf=>
(dM aB aq).bind λbg=>
(dM bg.2.1 bc).bind λbh=>
let bi:=(List.modify aB aq λe=>(e.1,((List.modify e.2.1 bc λe=>(aW,aY)),e.2.2)));
some (.inl (aq,av,ax,ay,aZ,ba,bi,aG,aH,aI,aJ,aK,()))) else
let aU:=wk .i64 aS;
(lF aU aL aM az aA).bind λ(aV,aW,_)=>
some (.inl (aq,av,ax,ay,aV,aW,aB,aG,aH,aI,aJ,aK,()))) else
bif (x6.1==17) then ((bif (x6.1==17) then (some (x0,x8,a4,a5,a6,a7,a8,a0,a1,a2,x6.1,x6.2.1,x6.2.2.1,x6.2.2.2.1,x6.2.2.2.2,ap.1,ap.2,ah.1,ah.2,())) else
some (x0,x8,a4,a5,a6,a7,a8,a0,a1,a2,x6.1,x6.2.1,x6.2.2.1,x6.2.2.2.1,x6.2.2.2.2,ap.1,ap.2,ap.1,ap.2,()):Option (T3o)).bind λ(aq,av,ax,ay,az,aA,aB,aD,aE,aF,aG,aH,aI,aJ,aK,aL,aM,aO,aP,_)=>
let aQ:=wk .u16 aK;
(fY ax ay aE aO aP aQ false).bind λ(aR,aS,aT,_)=>
bif (aT != 0) then ((fM aq aT aB).bind λ(aU,aV,_)=>
some (.inr (aU,ax,ay,az,aA,aV,()))) else
bif (aG==16) then ((dM aB aq).bind λaU=>
let aV:=wk .i64 aS;
(pE aV az aA).bind λ(aW,aY,aZ,ba,_)=>
(d9 aH).bind λbc=>
(dM aB aq).bind λbd=>
(dM bd.2.1 bc).bind λbf=>
(dM aB aq).bind λbg=>
(dM bg.2.1 bc).bind λbh=>
let bi:=(List.modify aB aq λe=>(e.1,((List.modify e.2.1 bc λe=>(aW,aY)),e.2.2)));
some (.inl (aq,av,ax,ay,aZ,ba,bi,aG,aH,aI,aJ,aK,()))) else
let aU:=wk .i64 aS;
(lF aU aL aM az aA).bind λ(aV,aW,_)=>
some (.inl (aq,av,ax,ay,aV,aW,aB,aG,aH,aI,aJ,aK,()))) else
bif (x6.1==18) then (some (.inl (x0,x6.2.2.2.2,a4,a5,a6,a7,a8,x6.1,x6.2.1,x6.2.2.1,x6.2.2.2.1,x6.2.2.2.2,()))) else
bif (x6.1==19) then (bif (ah.1 != 0) then ((fM x0 3 a8).bind λ(aq,av,_)=>
some (.inr (aq,a4,a5,a6,a7,av,()))) else
bif ((ah.2==0)==(x6.1==19)) then (some (.inl (x0,x6.2.2.2.2,a4,a5,a6,a7,a8,x6.1,x6.2.1,x6.2.2.1,x6.2.2.2.1,x6.2.2.2.2,()))) else
some (.inl (x0,x8,a4,a5,a6,a7,a8,x6.1,x6.2.1,x6.2.2.1,x6.2.2.2.1,x6.2.2.2.2,()))) else
bif (x6.1==20) then (bif (ah.1 != 0) then ((fM x0 3 a8).bind λ(aq,av,_)=>
some (.inr (aq,a4,a5,a6,a7,av,()))) else
bif ((ah.2==0)==(x6.1==19)) then (some (.inl (x0,x6.2.2.2.2,a4,a5,a6,a7,a8,x6.1,x6.2.1,x6.2.2.1,x6.2.2.2.1,x6.2.2.2.2,()))) else
some (.inl (x0,x8,a4,a5,a6,a7,a8,x6.1,x6.2.1,x6.2.2.1,x6.2.2.2.1,x6.2.2.2.2,()))) else
bif (x6.1==21) then ((dM a8 x0).bind λaq=>
let av:=wk .u16 x8;
(d9 x6.2.1).bind λax=>
(dM a8 x0).bind λay=>
(dM ay.2.1 ax).bind λaz=>
(dM a8 x0).bind λaA=>
(dM aA.2.1 ax).bind λaB=>
let aD:=(List.modify a8 x0 λe=>(e.1,((List.modify e.2.1 ax λe=>(0,av)),e.2.2)));
some (.inl (x0,x6.2.2.2.2,a4,a5,a6,a7,aD,x6.1,x6.2.1,x6.2.2.1,x6.2.2.2.1,x6.2.2.2.2,()))) else
bif (x6.1==22) then (bif (ah.1 != 0) then ((fM x0 3 a8).bind λ(aq,av,_)=>
some (.inr (aq,a4,a5,a6,a7,av,()))) else
bif decide (ah.2 > 255) then ((fM x0 2 a8).bind λ(aq,av,_)=>
some (.inr (aq,a4,a5,a6,a7,av,()))) else
let aq:=wk .i64 ah.2;
some (.inl (x0,aq,a4,a5,a6,a7,a8,x6.1,x6.2.1,x6.2.2.1,x6.2.2.2.1,x6.2.2.2.2,()))) else
bif (x6.1==24) then ((dM a8 x0).bind λaq=>
bif (aq.2.2.2.2.2.1==(-1)) then ((fM x0 1 a8).bind λ(av,ax,_)=>
some (.inr (av,a4,a5,a6,a7,ax,()))) else
(dM a8 x0).bind λav=>
(dM a8 x0).bind λax=>
let ay:=(List.modify a8 x0 λe=>(e.1,(e.2.1,(e.2.2.1,(e.2.2.2.1,(e.2.2.2.2.1,((-1),e.2.2.2.2.2.2)))))));
some (.inl (x0,av.2.2.2.2.2.1,a4,a5,a6,a7,ay,x6.1,x6.2.1,x6.2.2.1,x6.2.2.2.1,x6.2.2.2.2,()))) else
bif (x6.1==23) then ((dM a8 x0).bind λaq=>
let av:=List.modify a8 x0 λe=>(2,e.2);
(dM av x0).bind λax=>
let ay:=(List.modify av x0 λe=>(e.1,(e.2.1,(x8,e.2.2.2))));
some (.inr (1,a4,a5,a6,a7,ay,()))) else
(dM a8 x0).bind λaq=>
(d9 x6.2.2.2.1).bind λav=>
(dM a8 x0).bind λax=>
(dM ax.2.1 av).bind λay=>
(dM a8 x0).bind λaz=>
(dM az.2.1 av).bind λaA=>
(ue a4 a5 a1 x6.1 ap.1 ap.2 aA.1 aA.2).bind λ(aB,aD,aE,_)=>
bif (aE != 0) then ((fM x0 aE a8).bind λ(aF,aG,_)=>
some (.inr (aF,a4,a5,a6,a7,aG,()))) else
(dM a8 x0).bind λaF=>
(d9 x6.2.1).bind λaG=>
(dM a8 x0).bind λaH=>
(dM aH.2.1 aG).bind λaI=>
(dM a8 x0).bind λaJ=>
(dM aJ.2.1 aG).bind λaK=>
let aL:=(List.modify a8 x0 λe=>(e.1,((List.modify e.2.1 aG λe=>(aB,aD)),e.2.2)));
some (.inl (x0,x8,a4,a5,a6,a7,aL,x6.1,x6.2.1,x6.2.2.1,x6.2.2.2.1,x6.2.2.2.2,())):Option ((Nat×Int×LI×Int×LDCe×LDLn×LDTh×T0Z)⊕T1m)) with
| none=>none
| some (.inl (aq,av,ax,ay,az,aA,aB,aD,aE,aF,aG,aH,_))=>
(dM aB aq).bind λaI=>
let aJ:=(List.modify aB aq λe=>(e.1,(e.2.1,(av,e.2.2.2))));
((mN aD).bind λ(aK,_)=>
bif aK then ((dM aJ aq).bind λaL=>
let aM:=w64 (aL.2.2.2.1+1);
(dM aJ aq).bind λaO=>
let aP:=(List.modify aJ aq λe=>(e.1,(e.2.1,(e.2.2.1,(aM,e.2.2.2.2)))));
some (ax,ay,az,aA,aP,())) else
some (ax,ay,az,aA,aJ,()):Option (T17)).bind λ(aK,aL,aM,aO,aP,_)=>
some ((-1),aK,aL,aM,aO,aP,())
| some (.inr (aq,av,ax,ay,az,aA,_))=>
some (aq,av,ax,ay,az,aA,()))
def II:X.Cfg:=⟨E0,[zb,tS,zd,rS,Du,uX],[],[⟨17,0,qE,[(.normal,(qS [zaa 1,zaa 3,(7,.ptr ⟨4,4,[((),(8,0))]⟩ [0,0]),zaa 8,Uaa 9,zaa 11,zaa 12] [(4,Zac),(8,uab),(18,Zad),(24,uac),(26,uac)]))]⟩,⟨8,1,qE,[(.normal,(qS [zaa 1,(7,.ptr ⟨4,4,[((),(8,0))]⟩ [0,0]),zaa 8,Uaa 9] [(4,Zac),(18,Zad)])),(.ret,qS [zaa 1,Uaa 6] [(4,Zac)])]⟩,⟨52,2,qE,[(.normal,qS [zaa 1] [(4,Zac)])]⟩]⟩
def BH:Ctr:=⟨170,63,[.agg uab,.ptr ⟨4,0,[]⟩ [0],shU I64],[(4,Zac)],[⟨Xac,[.one],[(4,Zac)]⟩],ap9 rh⟩
theorem Iu:Lk 4 BH:=ls II (aC Gl (aC yE (aC Gm (aC wh (aC Lg (aC Cc aN))))))
def sg:T37->Option (T37⊕T1J):=λ(v0,v1,v2,v3,v4,v5,v6,v7,v8,v9,v10,v11,v12,v13,v14,_)=>
(rh v2 v3 v4 v0 v10 v11 v12 v13 v14).bind λ(x0,x1,x2,x3,x4,x5,_)=>
bif (x0 != (-1)) then (some (.inr (x0,0,x1,x2,x3,x4,x5,()))) else
(d9 v0).bind λx6=>
(dM x5 x6).bind λx7=>
(dM x5 x6).bind λx8=>
bif (x8.2.2.2.1==v1) then (some (.inr (0,0,x1,x2,x3,x4,x5,()))) else
some (.inl (v0,v1,v2,v3,v4,v5,v6,v7,v8,v9,x1,x2,x3,x4,x5,()))
def nQ(a0:LDIn) (a1:List (Int)) (a2:List LI) (a3:List (Int)) (a4:Int) (a5:LDCe) (a6:LDLn) (a7:LDTh) (a8:Int) (a9:Int):Option (LI×Int×LDCe×LDLn×LDTh×T02):=
((jT a0 a1 a2 a3 a4 a5 a6 a7).bind λ(x0,_)=>
bif (!x0) then (some (a8,a9,true,a0,a1,a2,a3,a4,a5,a6,a7,(),0,(),(),(),())) else
bif decide (a8 < 0) then (some (a8,a9,true,a0,a1,a2,a3,a4,a5,a6,a7,(),0,(),(),(),())) else
bif decide (a8>=4) then (some (a8,a9,true,a0,a1,a2,a3,a4,a5,a6,a7,(),0,(),(),(),())) else
bif decide (a9 < 1) then (some (a8,a9,true,a0,a1,a2,a3,a4,a5,a6,a7,(),0,(),(),(),())) else
some (a8,a9,(decide (a9 > 64)),a0,a1,a2,a3,a4,a5,a6,a7,(),0,(),(),(),()):Option (Int×Int×Bool×LDIn×LI×LLI×LI×Int×LDCe×LDLn×LDTh×T19)).bind λ(x0,x1,x2,x3,x4,x5,x6,x7,x8,x9,ac,ae,af,ag,ah,ai,_)=>
bif x2 then (some ([],0,[],[],[],0,1,())) else
(jA x6 x7 x8 x9 ac).bind λ(aj,ak,am,an,ap,_)=>
(d9 x0).bind λaq=>
(dM ac aq).bind λav=>
bif (av.1 != 1) then (some (aj,ak,am,an,ap,3,0,())) else
(d9 x0).bind λax=>
(dM ap ax).bind λay=>
(dM ap ax).bind λaz=>
let aA:=w64 (az.2.2.2.1+x1);
(dU sg NN (x0,aA,x3,x4,x5,ae,af,ag,ah,ai,aj,ak,am,an,ap,())).bind λ(aB,aD,aE,aF,aG,aH,aI,_)=>
some (aE,aF,aG,aH,aI,aB,aD,())
def EJ:X.Cfg:=⟨E0,[oh,nu,BH],[],[⟨2,0,qE,[(.normal,qS [Uaa 2,Uaa 3,zaa 4,zaa 5,zaa 8,Xaa 33] [(10,uab),(12,zac),(18,yac)])]⟩,⟨9,1,qS [Uaa 2,zaa 4,zaa 8,zaa 11,Uaa 12] [(10,uab),(18,yac),(24,Zac)],[(.ret,qS [zaa 8,Uaa 9,Uaa 10] [(18,Zac)])]⟩]⟩
def wS:Ctr:=⟨158,64,[.agg uab,.agg zac,shU I64,shU I64],[],[⟨uL [RI,CW,(uaa KCe),li,sJ,I64,I64],[.agg 5,.one,.one],[]⟩],ap10 nQ⟩
theorem D7:Lk 5 wS:=ls EJ (aC rA (aC pS (aC Iu aN)))
def lB(a0:Int):Option (ByteArray×Unit):=
let x0:ByteArray:=(bytes []);
(bif (a0==0) then (some (a0,true,())) else
bif (a0==8) then (some (a0,true,())) else
bif (a0==9) then (some (a0,true,())) else
bif (a0==11) then (some (a0,true,())) else
some (a0,(a0==12),()):Option (T01)).bind λ(x1,x2,_)=>
bif x2 then (let x3:ByteArray:=(bytes [78]);
some (x3,())) else
bif (x1==1) then (let x3:ByteArray:=(bytes [72,80,78]);
some (x3,())) else
bif (x1==2) then (let x3:ByteArray:=(bytes [72,80,78]);
some (x3,())) else
bif (x1==3) then (let x3:ByteArray:=(bytes [78,78]);
some (x3,())) else
bif (x1==4) then (let x3:ByteArray:=(bytes [72]);
some (x3,())) else
bif (x1==5) then (let x3:ByteArray:=(bytes [72,78]);
some (x3,())) else
bif (x1==10) then (let x3:ByteArray:=(bytes [78,88]);
some (x3,())) else
bif (x1==13) then (let x3:ByteArray:=(bytes [78,80,78]);
some (x3,())) else
bif (x1==14) then (let x3:ByteArray:=(bytes [78,80,78]);
some (x3,())) else
let x3:ByteArray:=(bytes []);
some (x3,())
def ED:X.Cfg:=⟨E0,[],[],[⟨3,0,qE,[(.normal,qS [Uaa 3,Xaa 4] [])]⟩]⟩
def og:Ctr:=⟨171,65,Xac,[],[⟨uL [.str],[.one],[]⟩],ap1 lB⟩
theorem rz:Lk 1 og:=ls ED aN
def ne(a0:Int) (a1:Int):Option (Bool×Unit):=
bif (a0==78) then (some ((a1==0),())) else
bif (a0==72) then (some ((a1==2),())) else
bif (a0==80) then (some ((a1==1),())) else
some (true,())
def GS:X.Cfg:=⟨E0,[],[],[]⟩
def tO:Ctr:=⟨172,66,uL [CB,CB],[],[⟨yab,[.one],[]⟩],ap2 ne⟩
theorem yB:Lk 1 tO:=ls GS aN
def jf(a0:Int):Option (Int×Unit):=
bif decide (a0 < 0) then (some ((-1),())) else
bif decide (a0 > 15) then (some ((-1),())) else
bif (a0==1) then (some (1,())) else
bif (a0==13) then (some (1,())) else
bif (a0==2) then (some (2,())) else
bif (a0==14) then (some (2,())) else
some (0,())
def Ct:X.Cfg:=⟨E0,[],[],[]⟩
def kp:Ctr:=⟨162,67,Xac,[],[⟨Xac,[.one],[]⟩],ap1 jf⟩
theorem mX:Lk 1 kp:=ls Ct aN
def mM(a0:List (Int)) (a1:Int) (a2:List (Int)) (a3:Int) (a4:Int) (a5:Int):Option (T02):=
bif (a3 != 1) then (some (0,3,())) else
let x0:=wk .i64 a4;
(fw a0 a1 a2 x0).bind λ(x1,x2,x3,_)=>
(bif (!x3) then (some (true,a3,a4,())) else
bif decide (a5 < 0) then (some (true,a3,a4,())) else
(d9 x1).bind λx4=>
(dM a2 x4).bind λx5=>
let x6:=w64 (x5 - x2);
some ((decide (a5 > x6)),a3,a4,()):Option (T0d)).bind λ(x4,x5,x6,_)=>
bif x4 then (some (0,4,())) else
let x7:=wk .i64 x6;
some (x7,0,())
def Cv:X.Cfg:=⟨E0,[jN],[],[⟨6,0,qE,[(.normal,qS [zaa 6,Xaa 41] [(14,uac)])]⟩]⟩
def uW:Ctr:=⟨173,68,[.agg Uab,shU RI,.agg uac,shU I64],[],[⟨Uac,[.one,.one],[]⟩],ap6 mM⟩
theorem Cb:Lk 2 uW:=ls Cv (aC lT aN)
def nB:T3q->Option (T3q⊕((Int×Unit)⊕(Int×ByteArray×Int×Int×Bool×T3c))):=λ(v0,v1,v2,v3,v4,v5,v6,v7,v8,v9,v10,v11,v12,v13,v14)=>
bif decide (v3 < v2) then ((d9 v3).bind λx0=>
(C4 v1 x0).bind λx1=>
(d9 v3).bind λx2=>
(dM v13 x2).bind λx3=>
(ne x1 x3.1).bind λ(x4,_)=>
bif (!x4) then (some (.inr (.inl (6,())))) else
let x5:=w64 (v3+1);
some (.inl (v0,v1,v2,x5,v4,v5,v6,v7,v8,v9,v10,v11,v12,v13,v14))) else
some (.inr (.inr (v0,v1,v2,v3,false,v4,v5,v6,v7,v8,v9,v10,v11,v12,v13,v14)))
def nP(a0:LDIn) (a1:List (Int)) (a2:List LI) (a3:List (Int)) (a4:Int) (a5:LDCe) (a6:LDLn) (a7:LDTh) (a8:Int):Option (Int×Unit):=
(d9 a8).bind λx0=>
(dM a7 x0).bind λx1=>
let x2:=w64 (x1.2.2.1 - 1);
(d9 x2).bind λx3=>
(dM a0 x3).bind λx4=>
(lB x4.2.2.2.2).bind λ(x5,_)=>
let x6:=DH x5;
(match dU nB NN (x4.2.2.2.2,x5,x6,0,a0,a1,a2,a3,a4,a5,a6,a7,x1.1,x1.2.1,x1.2.2.1,x1.2.2.2.1,x1.2.2.2.2.1,x1.2.2.2.2.2.1,x1.2.2.2.2.2.2.1,x1.2.2.2.2.2.2.2,()) with
| none=>none
| some (.inl (x7,_))=>
some (x7,())
| some (.inr (x7,x8,x9,ac,ae,af,ag,ah,ai,aj,ak,am,an,ap,aq,_))=>
(jf x7).bind λ(aD,_)=>
bif decide (aD > 0) then ((dM aq 1).bind λaE=>
(dM aq 2).bind λaF=>
let aG:=wk .i64 aF.2;
(mM ai aj ag aE.1 aE.2 aG).bind λ(aH,aI,_)=>
bif (aI != 0) then (some (6,())) else
(dM aq 2).bind λaJ=>
bif decide (aJ.2 > 16) then (some (6,())) else
(bif (x7==10) then ((dM aq 0).bind λaK=>
let aL:=wk .i64 aK.2;
let aM:=dN af.length;
some ((decide (aL>=aM)),())) else
bif (x7==12) then ((dM aq 0).bind λaK=>
let aL:=wk .i64 aK.2;
let aM:=dN af.length;
some ((decide (aL>=aM)),())) else
some (false,()):Option (Bool×Unit)).bind λ(aK,_)=>
bif aK then (some (6,())) else
some (0,())) else
(bif (x7==10) then ((dM aq 0).bind λaE=>
let aF:=wk .i64 aE.2;
let aG:=dN af.length;
some ((decide (aF>=aG)),())) else
bif (x7==12) then ((dM aq 0).bind λaE=>
let aF:=wk .i64 aE.2;
let aG:=dN af.length;
some ((decide (aF>=aG)),())) else
some (false,()):Option (Bool×Unit)).bind λ(aE,_)=>
bif aE then (some (6,())) else
some (0,()))
def EG:X.Cfg:=⟨E0,[og,tO,kp,uW],[],[⟨6,0,qS [zaa 3,zaa 4,zaa 7,Uaa 8,sP 9 .str,Uaa 29,Uaa 30] [(8,uab),(10,zac),(16,Uad)],[(.ret,qS [Uaa 6] []),(.exit 0,qS [zaa 3,zaa 4,zaa 7,Uaa 8,sP 9 .str,Uaa 29,Uaa 30,Xaa 31] [(8,uab),(10,zac),(16,Uad)])]⟩,⟨19,1,qE,[(.normal,qS [Xaa 93] [])]⟩]⟩
def wR:Ctr:=⟨159,69,[.agg uab,.agg zac,shU I64],[],[⟨Xac,[.one],[]⟩],ap9 nP⟩
theorem D6:Lk 3 wR:=ls EG (aC rz (aC yB (aC mX (aC Cb aN))))
def mL(a0:Int) (a1:LDCe) (a2:Int) (a3:Int) (a4:Int) (a5:Int) (a6:Int) (a7:Int):Option (T24):=
bif (dY 4 0 a1.length) then let x0:LDCe:=(List.append [] a1);
some (a0,x0,a2,a3,a4,a5,a6,a7,()) else none
def Cu:X.Cfg:=⟨E0,[],[],[]⟩
def uV:Ctr:=⟨174,70,[.agg Uad],[],[⟨uah,[.agg 8],[]⟩],ap8 mL⟩
theorem Ca:Lk 1 uV:=ls Cu aN
def oG(a0:Int) (a1:LDCe) (a2:Int) (a3:Int) (a4:Int) (a5:Int) (a6:Int) (a7:Int) (a8:Int) (a9:Int):Option (T24):=
(mL a0 a1 a2 a3 a4 a5 a6 a7).bind λ(x0,x1,x2,x3,x4,x5,_)=>
some (4,x1,x2,x3,x4,x5,a8,a9,())
def IK:X.Cfg:=⟨E0,[uV],[],[]⟩
def vz:Ctr:=⟨160,71,[.agg Uad,shU I64,shU CW],[],[⟨uah,[.agg 8],[]⟩],ap10 oG⟩
theorem AT:Lk 2 vz:=ls IK (aC Ca aN)
def iE(a0:Int):Option (Int×Unit):=
bif decide (a0 < 0) then (some ((-1),())) else
bif decide (a0 > 15) then (some ((-1),())) else
(lB a0).bind λ(x0,_)=>
let x1:=DH x0;
some (x1,())
def xW:X.Cfg:=⟨E0,[og],[],[]⟩
def mC:Ctr:=⟨161,72,Xac,[],[⟨Xac,[.one],[]⟩],ap1 iE⟩
theorem qI:Lk 2 mC:=ls xW (aC rz aN)
def iZ(a0:List (Int)) (a1:Int) (a2:List (Int)) (a3:Int) (a4:Int):Option (T0y):=
bif (a3==0) then (some (0,a4,0,0,())) else
bif (a3==2) then (let x0:Int:=(wk .u16 (a4 - a1));
some (2,x0,0,0,())) else
let x0:=wk .i64 a4;
(fw a0 a1 a2 x0).bind λ(x1,x2,x3,_)=>
bif x3 then (some (1,0,x1,x2,())) else
let x4:=wk .i64 a4;
some (1,0,(-1),x4,())
def EW:X.Cfg:=⟨E0,[jN],[],[]⟩
def oj:Ctr:=⟨31,73,[.agg Uab,shU RI,.agg uac],[],[⟨Uaf,[.agg 4],[]⟩],ap5 iZ⟩
theorem rC:Lk 2 oj:=ls EW (aC lT aN)
def nh(a0:LDCe) (a1:LDLn) (a2:Int):Option (T02):=
let x0:=w64 (Int.tdiv a2 4);
let x1:=Int.tmod x0 4;
(d9 x1).bind λx2=>
(dM a1 x2).bind λx3=>
bif (x3.1==x0) then (let x4:Int:=(Int.tmod a2 4);
(d9 x4).bind λx5=>
(dM x3.2.2 x5).bind λx6=>
some (x6.1,x6.2,())) else
(d9 a2).bind λx4=>
(dM a0 x4).bind λx5=>
some (x5.1,x5.2,())
def G8:X.Cfg:=⟨E0,[],[],[]⟩
def tV:Ctr:=⟨82,74,[.agg uae,shU I64],[],[⟨uac,[.agg 2],[]⟩],ap3 nh⟩
theorem yG:Lk 1 tV:=ls G8 aN
def jy:T42->Option (T42⊕(Int×Int×T3X)):=λ(v0,v1,v2,v3,v4,v5,v6,v7,v8,v9,v10,v11,v12,v13,v14,v15,v16,v17,v18,v19,v20,v21,v22,v23,v24,v25,v26,v27,v28,v29,v30,v31,v32,v33,v34,v35,v36,v37,v38,_)=>
bif decide (v1 < v0) then ((d9 v1).bind λx0=>
(dM v24 x0).bind λx1=>
(iZ v18 v19 v3 x1.1 x1.2).bind λ(x2,x3,x4,x5,_)=>
let x6:LDCn:=[(x2,(x3,(x4,x5)))];
bif (dY 24 v37.length x6.length) then let x7:LDCn:=(List.append v37 x6);
let x8:=w64 (v1+1);
some (.inl (v0,x8,v2,v3,v4,v5,v6,v7,v8,v9,v10,v11,v12,v13,v14,v15,v16,v17,v18,v19,v20,v21,v22,v23,v24,v25,v26,v27,v28,v29,v30,v31,v32,v33,v34,v35,v36,x7,v38,())) else none) else
some (.inr (v0,v1,false,v2,v3,v4,v5,v6,v7,v8,v9,v10,v11,v12,v13,v14,v15,v16,v17,v18,v19,v20,v21,v22,v23,v24,v25,v26,v27,v28,v29,v30,v31,v32,v33,v34,v35,v36,v37,v38,()))
def jx:T41->Option (T41⊕T45):=λ(v0,v1,v2,v3,v4,v5,v6,v7,v8,v9,v10,v11,v12,v13,v14,v15,v16,v17,v18,v19,v20,v21,v22,v23,v24,v25,v26,v27,v28,v29,v30,v31,v32,v33,v34,v35,v36,v37,v38,_)=>
bif decide (v1 < v0) then ((dM v24 1).bind λx0=>
let x1:=wk .i64 x0.2;
let x2:=w64 (x1+v1);
(nh v20 v21 x2).bind λ(x3,x4,_)=>
(iZ v18 v19 v3 x3 x4).bind λ(x5,x6,x7,x8,_)=>
let x9:LDCn:=[(x5,(x6,(x7,x8)))];
bif (dY 24 v38.length x9.length) then let ac:LDCn:=(List.append v38 x9);
let ae:=w64 (v1+1);
some (.inl (v0,ae,v2,v3,v4,v5,v6,v7,v8,v9,v10,v11,v12,v13,v14,v15,v16,v17,v18,v19,v20,v21,v22,v23,v24,v25,v26,v27,v28,v29,v30,v31,v32,v33,v34,v35,v36,v37,ac,())) else none) else
some (.inr (v0,v1,false,v2,v3,v4,v5,v6,v7,v8,v9,v10,v11,v12,v13,v14,v15,v16,v17,v18,v19,v20,v21,v22,v23,v24,v25,v26,v27,v28,v29,v30,v31,v32,v33,v34,v35,v36,v37,v38,()))
def ng(a0:LDIn) (a1:List (Int)) (a2:List LI) (a3:List (Int)) (a4:Int) (a5:LDCe) (a6:LDLn) (a7:LDTh) (a8:Int) (a9:Int):Option (LI×Int×LDCe×LDLn×LDTh×T2f):=
(nQ a0 a1 a2 a3 a4 a5 a6 a7 a8 a9).bind λ(x0,x1,x2,x3,x4,x5,x6,_)=>
bif (x6 != 0) then (some ([],0,[],[],[],0,0,0,0,0,0,[],[],x6,())) else
(d9 a8).bind λx7=>
(dM x4 x7).bind λx8=>
(dM x4 x7).bind λx9=>
(dM x4 x7).bind λac=>
(match (bif (x5==2) then (some (.inl ((),0,(),(),(),0,0,0,0,0,0,(),(),x0,x1,x2,x3,x4,a8,x5,x9.2.2.2.2.2.2.1,x9.2.2.2.1,x9.2.2.1,0,(),(),()))) else
bif (x5==1) then ((nP a0 a1 a2 x0 x1 x2 x3 x4 a8).bind λ(ae,_)=>
bif (ae != 0) then ((oG x9.1 ac.2.1 x9.2.2.1 x9.2.2.2.1 x9.2.2.2.2.1 x9.2.2.2.2.2.1 x9.2.2.2.2.2.2.1 x9.2.2.2.2.2.2.2 ae 0).bind λ(af,ag,ah,ai,aj,ak,am,an,_)=>
(d9 a8).bind λap=>
(dM x4 ap).bind λaq=>
(dM x4 ap).bind λav=>
let ax:=(List.modify x4 ap λe=>(af,(ag,(ah,(ai,(aj,(ak,(am,an))))))));
some (.inl ((),0,(),(),(),0,0,0,0,0,0,(),(),x0,x1,x2,x3,ax,a8,2,ae,x9.2.2.2.1,x9.2.2.1,0,(),(),()))) else
let af:=w64 (x9.2.2.1 - 1);
(d9 af).bind λag=>
(dM a0 ag).bind λah=>
(iE ah.2.2.2.2).bind λ(ai,_)=>
(dU jy NN (ai,0,a0,a1,a2,(),0,(),(),(),0,0,0,0,0,0,(),(),x0,x1,x2,x3,x4,x9.1,ac.2.1,x9.2.2.1,x9.2.2.2.1,x9.2.2.2.2.1,x9.2.2.2.2.2.1,x9.2.2.2.2.2.2.1,x9.2.2.2.2.2.2.2,a8,x5,0,x9.2.2.2.1,x9.2.2.1,ah.2.2.2.2,[],(),())).bind λ(aj,ak,am,an,ap,aq,av,ax,ay,az,aA,aB,aD,aE,aF,aG,aH,aI,aJ,aK,aL,aM,aO,aP,aQ,aR,aS,aT,aU,aV,aW,aY,aZ,ba,bc,bd,bf,bg,bh,bi,_)=>
(jf bg).bind λ(bj,_)=>
bif (bj==1) then ((dM aR 2).bind λbk=>
let bl:=wk .i64 bk.2;
(dU jx NN (bl,0,an,ap,aq,av,ax,ay,az,aA,aB,aD,aE,aF,aG,aH,aI,aJ,aK,aL,aM,aO,aP,aQ,aR,aS,aT,aU,aV,aW,aY,aZ,ba,bc,bd,bf,bg,bh,[],())).bind λ(bm)=>
some (.inr (.inl (bm)))) else
some (.inr (.inr (.inl (false,an,ap,aq,av,ax,ay,az,aA,aB,aD,aE,aF,aG,aH,aI,aJ,aK,aL,aM,aO,aP,aQ,aR,aS,aT,aU,aV,aW,aY,aZ,ba,bc,bd,bf,bg,bh,bi,()))))) else
some (.inr (.inr (.inr (a8,false,a0,a1,a2,(),0,(),(),(),0,0,0,0,0,0,(),(),x0,x1,x2,x3,x4,x9.1,ac.2.1,x9.2.2.1,x9.2.2.2.1,x9.2.2.2.2.1,x9.2.2.2.2.2.1,x9.2.2.2.2.2.2.1,x9.2.2.2.2.2.2.2,a8,x5,0,x9.2.2.2.1,x9.2.2.1,0,(),(),())))):Option ((Unit×Int×Unit×Unit×Unit×Int×Int×Int×Int×Int×Int×Unit×Unit×LI×Int×LDCe×LDLn×LDTh×T1Z)⊕(T45⊕(T3X⊕(Int×Bool×LDIn×LI×LLI×Unit×Int×Unit×Unit×Unit×Int×Int×Int×Int×Int×Int×Unit×Unit×LI×Int×LDCe×LDLn×LDTh×Int×LDCe×Int×Int×Int×Int×Int×Int×T1Z))))) with
| none=>none
| some (.inl (ae,af,ag,ah,ai,aj,ak,am,an,ap,aq,av,ax,ay,az,aA,aB,aD,aE,aF,aG,aH,aI,aJ,aK,aL,_))=>
some (ay,az,aA,aB,aD,aE,aF,aG,aH,aI,aJ,[],[],0,())
| some (.inr (.inl (ae,af,ag,ah,ai,aj,ak,am,an,ap,aq,av,ax,ay,az,aA,aB,aD,aE,aF,aG,aH,aI,aJ,aK,aL,aM,aO,aP,aQ,aR,aS,aT,aU,aV,aW,aY,aZ,ba,bc,_)))=>
some (aF,aG,aH,aI,aJ,aT,aU,aV,aW,aY,aZ,ba,bc,0,())
| some (.inr (.inr (.inl (ae,af,ag,ah,ai,aj,ak,am,an,ap,aq,av,ax,ay,az,aA,aB,aD,aE,aF,aG,aH,aI,aJ,aK,aL,aM,aO,aP,aQ,aR,aS,aT,aU,aV,aW,aY,aZ,_))))=>
some (aD,aE,aF,aG,aH,aR,aS,aT,aU,aV,aW,aY,[],0,())
| some (.inr (.inr (.inr (ae,af,ag,ah,ai,aj,ak,am,an,ap,aq,av,ax,ay,az,aA,aB,aD,aE,aF,aG,aH,aI,aJ,aK,aL,aM,aO,aP,aQ,aR,aS,aT,aU,aV,aW,aY,aZ,ba,_))))=>
some (aE,aF,aG,aH,aI,aS,aT,aU,aV,aW,aY,[],[],0,()))
def GT:X.Cfg:=⟨E0,[wS,wR,vz,mC,oj,kp,tV],[],[⟨19,0,qS [zaa 4,zaa 8,zaa 9,zaa 11,zaa 14,zaa 15,Uaa 80,Uaa 81] [(10,uab),(18,yac),(20,yag),(24,zah),(30,Uad),(32,Uaj)],[(.exit 1,qS [zaa 4,zaa 8,zaa 9,zaa 11,zaa 14,zaa 15,Uaa 80,Uaa 81,Xaa 82] [(10,uab),(18,yac),(20,yag),(24,zah),(30,Uad),(32,Uaj)])]⟩,⟨26,1,qS [zaa 4,zaa 8,zaa 9,zaa 11,zaa 14,zaa 15,Uaa 109,Uaa 110] [(10,uab),(18,yac),(20,yag),(24,zah),(30,Uad),(32,Xaj)],[(.exit 3,qS [zaa 4,zaa 8,zaa 9,zaa 11,zaa 14,zaa 15,Uaa 109,Uaa 110,Xaa 111] [(10,uab),(18,yac),(20,yag),(24,zah),(30,Uad),(32,Xaj)])]⟩,⟨7,2,qE,[(.normal,qS [zaa 8,zaa 9,zaa 11,zaa 15] [(18,yac),(20,yag),(24,zah),(32,yag)]),(.normal,qS [zaa 4,zaa 8,zaa 9,zaa 11,zaa 14,zaa 15,Uaa 109,Uaa 110,Xaa 111] [(10,uab),(18,yac),(20,yag),(24,zah),(30,Uad),(32,Xaj)]),(.normal,qS [zaa 4,zaa 8,zaa 9,zaa 11,zaa 14,zaa 15,Xaa 103] [(10,uab),(18,yac),(20,yag),(24,zah),(30,Uad),(32,Uaj)]),(.normal,qS [Uaa 2,zaa 4,zaa 8,zaa 9,zaa 11,zaa 14,zaa 15,Xaa 51] [(10,uab),(18,yac),(20,yag),(24,zah),(30,Uad),(32,yag)])]⟩]⟩
def y9:Ctr:=⟨130,75,[.agg uab,.agg zac,shU I64,shU I64],[],[⟨uL [RI,CW,fi,fT,gH,I64,I64,I64,I64,I64,I64,d8,d8,I64],[.agg 5,.agg 8,.one],[]⟩],ap10 ng⟩
theorem Gj:Lk 6 y9:=ls GT (aC D7 (aC D6 (aC AT (aC qI (aC rC (aC mX (aC yG aN)))))))
def jw:T2u->Option (T2u⊕T2F):=λ(v0,v1,v2,v3,v4,v5,v6,v7,v8,_)=>
bif decide (v2 < v1) then ((d9 v2).bind λx0=>
(dM v0 x0).bind λx1=>
bif (dY 8 0 x1.length) then let x2:List (Int):=(List.append [] x1);
bif (dY 24 v8.length (List.length [x2])) then let x3:List LI:=(List.append v8 [x2]);
let x4:=w64 (v2+1);
some (.inl (v0,v1,x4,v3,v4,v5,v6,v7,x3,())) else none else none) else
some (.inr (v0,v1,v2,false,v3,v4,v5,v6,v7,v8,()))
def nb(a0:List (Int)) (a1:List LI):Option (T09):=
bif (dY 8 0 a0.length) then let x0:List (Int):=(List.append [] a0);
let x1:=dN a1.length;
(dU jw NN (a1,x1,0,a0,a1,(),(),x0,[],())).bind λ(x2,x3,x4,x5,x6,x7,x8,x9,ac)=>
some (ac) else none
def GM:X.Cfg:=⟨E0,[],[(21,(uaa I64)),(22,(uaa I64))],[(lx 4 0 [zaa 2,zaa 3,sP 11 (yaa RI),Uaa 12,Uaa 13] [(4,zaf),(6,Zab),(8,Zae)] 14)]⟩
def pY:Ctr:=⟨175,76,[.agg zaf],[],[⟨Zae,[.agg 2],[]⟩],ap2 nb⟩
theorem tn:Lk 1 pY:=ls GM aN
def kW(a0:List (Int)) (a1:List LI) (a2:Int) (a3:Int):Option (LI×LLI×T01):=
(nb a0 a1).bind λ(x0,x1,_)=>
(bif decide (a2 < 0) then (some (a2,true,(),(),x0,x1,())) else
bif decide (a2>=4) then (some (a2,true,(),(),x0,x1,())) else
(d9 a2).bind λx2=>
(dM a0 x2).bind λx3=>
some (a2,(x3 != a3),(),(),x0,x1,()):Option (T1f)).bind λ(x2,x3,x4,x5,x6,x7,_)=>
bif x3 then (some (x6,x7,(-1),false,())) else
(d9 x2).bind λx8=>
(dM x6 x8).bind λx9=>
(dM x6 x8).bind λac=>
let ae:=List.modify x6 x8 λe=>(-1);
(d9 x2).bind λaf=>
(dM x7 af).bind λag=>
(dM x7 af).bind λah=>
(dM x7 af).bind λai=>
let aj:=dN ai.length;
bif decide (aj > 0) then ((d9 x2).bind λak=>
(dM x7 ak).bind λam=>
(dM x7 ak).bind λan=>
(dM x7 ak).bind λap=>
(dM ap 0).bind λaq=>
(dM x7 ak).bind λav=>
(dM av 0).bind λax=>
(d9 x2).bind λay=>
(dM ae ay).bind λaz=>
(dM ae ay).bind λaA=>
let aB:=List.modify ae ay λe=>ax;
(d9 x2).bind λaD=>
(dM x7 aD).bind λaE=>
(dM x7 aD).bind λaF=>
(dM x7 aD).bind λaG=>
bif (iQ 1 aG.length aG.length) then (dM x7 aD).bind λaH=>
(d9 x2).bind λaI=>
(dM x7 aI).bind λaJ=>
(dM x7 aD).bind λaK=>
(dM x7 aI).bind λaL=>
let aM:=(List.modify x7 aI λe=>(m8 aK 1 (Nat.sub aG.length 1)));
(d9 x2).bind λaO=>
(dM aB aO).bind λaP=>
some (aB,aM,aP,true,()) else none) else
(d9 x2).bind λak=>
(dM ae ak).bind λam=>
some (ae,x7,am,true,())
def GK:X.Cfg:=⟨E0,[pY],[],[⟨3,0,qE,[(.normal,qS [Uaa 1,zaa 6,zaa 9,Xaa 26] [(14,Zab),(20,Zae)])]⟩]⟩
def pX:Ctr:=⟨163,77,[.agg zaf,shU I64,shU I64],[],[⟨uL [RI,(yaa RI),I64,.bool],[.agg 2,.one,.one],[]⟩],ap4 kW⟩
theorem tk:Lk 2 pX:=ls GK (aC tn aN)
def ek(a0:Int) (a1:Bool):Option (T1F):=
(bif (!a1) then (some (65535,0,0,0,0,(),0,false,())) else
some (a0,0,0,0,0,(),0,false,()):Option (Int×T1F)).bind λ(x0,_)=>
let x8:=wk .u16 x0;
some (0,x8,0,0,(),(-1),false,())
def Et:X.Cfg:=⟨E0,[],[],[⟨1,0,qE,[(.normal,qS [Uaa 0,zaa 4] [(10,Xae)])]⟩]⟩
def l7:Ctr:=⟨176,78,uL [I64,.bool],[],[⟨Xae,[.agg 7],[]⟩],ap2 ek⟩
theorem n9:Lk 1 l7:=ls Et aN
def oE:T34->Option (T34⊕((Int×T09)⊕(Int×Int×LLI×Int×Int×LI×T2c))):=λ(v0,v1,v2,v3,v4,v5,v6,v7,v8,v9,v10,v11,v12)=>
bif decide (v7 < v6) then ((d9 v7).bind λx0=>
(dM v5 x0).bind λx1=>
bif (x1==v1) then (some (.inr (.inl (2,v12)))) else
let x2:=w64 (v7+1);
some (.inl (v0,v1,v2,v3,v4,v5,v6,x2,v8,v9,v10,v11,v12))) else
some (.inr (.inr (v0,v1,v2,v3,v4,v5,v6,v7,false,v8,v9,v10,v11,v12)))
def oD:T2I->Option (T2I⊕((Int×T09)⊕(Int×Int×T2F))):=λ(v0,v1,v2,v3,v4,v5)=>
bif decide (v4 < v3) then ((d9 v4).bind λx0=>
(dM v2 x0).bind λx1=>
let x2:=dN x1.length;
(match dU oE NN (v0,v1,v2,v3,v4,x1,x2,0,v5) with
| none=>none
| some (.inl (x3,x4,x5,_))=>
some (.inr (.inl (x3,x4,x5,())))
| some (.inr (x3,x4,x5,x6,x7,x8,x9,ac,ae,af))=>
let am:=w64 (x7+1);
some (.inl (x3,x4,x5,x6,am,af)))) else
some (.inr (.inr (v0,v1,v2,v3,v4,false,v5)))
def pB(a0:List (Int)) (a1:List LI) (a2:Int) (a3:Int):Option (LI×LLI×Int×Unit):=
(nb a0 a1).bind λ(x0,x1,_)=>
(bif decide (a2 < 0) then (some (a2,a3,true,a0,a1,(),(),x0,x1,())) else
bif decide (a2>=4) then (some (a2,a3,true,a0,a1,(),(),x0,x1,())) else
(d9 a2).bind λx2=>
(dM a0 x2).bind λx3=>
some (a2,a3,(x3==a3),a0,a1,(),(),x0,x1,()):Option (T2c)).bind λ(x2,x3,x4,x5,x6,x7,x8,x9,ac,_)=>
bif x4 then (some (x9,ac,2,())) else
let ae:=dN x6.length;
(match dU oD NN (x2,x3,x6,ae,0,x5,x6,x7,x8,x9,ac,()) with
| none=>none
| some (.inl (af,ag,ah,_))=>
some (ag,ah,af,())
| some (.inr (af,ag,ah,ai,aj,ak,am,an,ap,aq,av,ax,_))=>
(d9 af).bind λay=>
(dM am ay).bind λaz=>
bif (az==(-1)) then ((d9 af).bind λaA=>
(dM av aA).bind λaB=>
(dM av aA).bind λaD=>
let aE:=List.modify av aA λe=>ag;
some (aE,ax,0,())) else
(d9 af).bind λaA=>
(dM ax aA).bind λaB=>
(dM ax aA).bind λaD=>
(dM ax aA).bind λaE=>
bif (dY 8 aE.length (List.length [ag])) then let aF:List (Int):=(List.append aE [ag]);
(d9 af).bind λaG=>
(dM ax aG).bind λaH=>
(dM ax aG).bind λaI=>
bif (Nat.beq aG aA) then let aJ:List LI:=(List.modify ax aG λe=>aF);
some (av,aJ,1,()) else none else none)
def GJ:X.Cfg:=⟨E0,[pY],[],[⟨3,0,qE,[(.normal,qS [Uaa 1,Uaa 2,zaa 3,zaa 6,zaa 8,Xaa 29] [(8,zaf),(14,Zab),(18,Zae)])]⟩,⟨13,1,qS [Uaa 1,Uaa 2,zaa 3,zaa 6,zaa 8,sP 32 (yaa RI),Uaa 33,Uaa 34,sP 38 RI,Uaa 39,Uaa 40] [(8,zaf),(14,Zab),(18,Zae)],[(.ret,qS [zaa 6,Uaa 7] [(14,Zae)]),(.exit 2,qS [Uaa 1,Uaa 2,zaa 3,zaa 6,zaa 8,sP 32 (yaa RI),Uaa 33,Uaa 34,sP 38 RI,Uaa 39,Uaa 40,Xaa 41] [(8,zaf),(14,Zab),(18,Zae)])]⟩,⟨7,2,qS [Uaa 1,Uaa 2,zaa 3,zaa 6,zaa 8,sP 32 (yaa RI),Uaa 33,Uaa 34] [(8,zaf),(14,Zab),(18,Zae)],[(.ret,qS [zaa 6,Uaa 7] [(14,Zae)]),(.exit 0,qS [Uaa 1,Uaa 2,zaa 3,zaa 6,zaa 8,sP 32 (yaa RI),Uaa 33,Uaa 34,Xaa 35] [(8,zaf),(14,Zab),(18,Zae)])]⟩]⟩
def yW:Ctr:=⟨177,79,[.agg zaf,shU I64,shU I64],[],[⟨uL [(uaa I64),(uaa (uaa I64)),I64],[.agg 2,.one],[]⟩],ap4 pB⟩
theorem Gd:Lk 2 yW:=ls GJ (aC tn aN)
def lC(a0:Int) (a1:Int) (a2:Int) (a3:Int) (a4:Int) (a5:Int) (a6:LDCn) (a7:LDCn):Option (Bool×Unit):=
bif decide (a0>=0) then (bif decide (a0 < 4) then (bif decide (a1>=0) then (bif decide (a1<=3) then (bif decide (a2>=0) then (bif decide (a2<=6) then (bif decide (a3>=0) then (bif decide (a3<=1099511627776) then (bif decide (a4>=0) then (bif decide (a4<=255) then (bif decide (a5>=0) then (bif decide (a5<=15) then ((ff a6 3).bind λ(x0,_)=>
bif x0 then ((ff a7 16).bind λ(x1,_)=>
some (x1,())) else
some (false,())) else
some (false,())) else
some (false,())) else
some (false,())) else
some (false,())) else
some (false,())) else
some (false,())) else
some (false,())) else
some (false,())) else
some (false,())) else
some (false,())) else
some (false,())) else
some (false,())
def EE:X.Cfg:=⟨E0,[gD],[],[]⟩
def rR:Ctr:=⟨179,80,[.agg uad],[],[⟨yab,[.one],[]⟩],ap8 lC⟩
theorem wg:Lk 3 rR:=ls EE (aC ic aN)
def sQ(a0:Int):Option (Bool×Unit):=
bif decide (a0>=1) then (bif decide (a0<=7) then (some (true,())) else
bif (a0==13) then (some (true,())) else
some ((a0==14),())) else
bif (a0==13) then (some (true,())) else
some ((a0==14),())
def GB:X.Cfg:=⟨E0,[],[],[]⟩
def yR:Ctr:=⟨189,81,Xac,[],[⟨yab,[.one],[]⟩],ap1 sQ⟩
theorem F7:Lk 1 yR:=ls GB aN
def i8:T2P->Option (T2P⊕((Bool×Unit)⊕(ByteArray×LDCn×Int×Int×Bool×T1Y))):=λ(v0,v1,v2,v3,v4)=>
bif decide (v3 < v2) then ((d9 v3).bind λx0=>
(dM v1 x0).bind λx1=>
(d9 v3).bind λx2=>
(C4 v0 x2).bind λx3=>
(ne x3 x1.1).bind λ(x4,_)=>
bif (!x4) then (some (.inr (.inl (false,())))) else
let x5:=w64 (v3+1);
some (.inl (v0,v1,v2,x5,v4))) else
some (.inr (.inr (v0,v1,v2,v3,false,v4)))
def nO(a0:Int) (a1:Int) (a2:Int) (a3:Int) (a4:Int) (a5:Int) (a6:LDCn) (a7:LDCn):Option (Bool×Unit):=
(lB a5).bind λ(x0,_)=>
let x1:=DH x0;
let x2:=dN a6.length;
bif (x1 != x2) then (some (false,())) else
let x3:=dN a6.length;
(match dU i8 NN (x0,a6,x3,0,a0,a1,a2,a3,a4,a5,a6,a7,()) with
| none=>none
| some (.inl (x4,_))=>
some (x4,())
| some (.inr (x4,_))=>
some (true,()))
def EF:X.Cfg:=⟨E0,[og,tO],[],[⟨7,0,qS [sP 3 .str,sP 16 d8,Uaa 17,Uaa 18] [(4,uad)],[(.ret,qS [Xaa 2] []),(.exit 0,qS [sP 3 .str,sP 16 d8,Uaa 17,Uaa 18,Xaa 19] [(4,uad)])]⟩]⟩
def wQ:Ctr:=⟨190,82,[.agg uad],[],[⟨yab,[.one],[]⟩],ap8 nO⟩
theorem D5:Lk 2 wQ:=ls EF (aC rz (aC yB aN))
def iR(a0:List LDCn) (a1:LDOp) (a2:Int):Option (Bool×Unit):=
bif decide (a2>=0) then (let x0:Int:=(dN a1.length);
bif decide (a2 < x0) then ((d9 a2).bind λx1=>
(dM a1 x1).bind λx2=>
some ((x2.1 != (-1)),())) else
some (false,())) else
some (false,())
def GE:X.Cfg:=⟨E0,[],[],[]⟩
def nq:Ctr:=⟨204,83,[.agg zad,shU I64],[],[⟨yab,[.one],[]⟩],ap3 iR⟩
theorem pR:Lk 1 nq:=ls GE aN
def sf:T2L->Option (T2L⊕(LDCn×Nat×Int×Int×Int×Bool×T1A)):=λ(v0,v1,v2,v3,v4,v5,v6,v7,v8,v9,v10,_)=>
bif decide (v4 < v3) then (((dM v9 v1).bind λx0=>
let x1:=w64 (x0.2.1+v4);
let x2:=dN v10.length;
bif decide (x1 < x2) then ((dM v9 v1).bind λx3=>
let x4:=w64 (x3.2.1+v4);
(d9 v4).bind λx5=>
(dM v0 x5).bind λx6=>
(d9 x4).bind λx7=>
(dM v10 x7).bind λx8=>
(dM v10 x7).bind λx9=>
let ac:=(List.modify v10 x7 λe=>(x6.1,(x6.2.1,(x6.2.2.1,x6.2.2.2))));
some (v0,v1,v2,v3,v4,v5,v6,v7,v8,v9,ac,())) else
(d9 v4).bind λx3=>
(dM v0 x3).bind λx4=>
let x5:LDCn:=[(x4.1,(x4.2.1,(x4.2.2.1,x4.2.2.2)))];
bif (dY 24 v10.length x5.length) then let x6:LDCn:=(List.append v10 x5);
some (v0,v1,v2,v3,v4,v5,v6,v7,v8,v9,x6,()) else none:Option (T2L)).bind λ(x0,x1,x2,x3,x4,x5,x6,x7,x8,x9,ac,_)=>
let ae:=w64 (x4+1);
some (.inl (x0,x1,x2,x3,ae,x5,x6,x7,x8,x9,ac,()))) else
some (.inr (v0,v1,v2,v3,v4,false,v5,v6,v7,v8,v9,v10,()))
def nM(a0:List LDCn) (a1:LDOp) (a2:Int) (a3:LDCn):Option (LLCn×LDOp×T01):=
(g9 a0 a1).bind λ(x0,x1,_)=>
((iR a0 a1 a2).bind λ(x2,_)=>
bif (!x2) then (some (a2,a3,true,(),(),x0,x1,())) else
(d9 a2).bind λx3=>
(dM a1 x3).bind λx4=>
bif (!x4.2.2) then (some (a2,a3,true,(),(),x0,x1,())) else
let x5:=dN a3.length;
(ff a3 x5).bind λ(x6,_)=>
some (a2,a3,(!x6),(),(),x0,x1,()):Option (Int×LDCn×T0W)).bind λ(x2,x3,x4,x5,x6,x7,x8,_)=>
bif x4 then (some (x7,x8,0,false,())) else
(d9 x2).bind λx9=>
(dM x8 x9).bind λac=>
let ae:=dN x3.length;
(dM x8 x9).bind λaf=>
let ag:=w64 (64 - af.2.1);
let ah:=mmR false ae ag;
(dM x8 x9).bind λai=>
(d9 ai.1).bind λaj=>
(dM x7 aj).bind λak=>
(dM x7 aj).bind λam=>
(dM x7 aj).bind λan=>
(dU sf NN (x3,x9,ah,ah,0,x5,x6,x7,aj,x8,an,())).bind λ(ap,aq,av,ax,ay,az,aA,aB,aD,aE,aF,aG,_)=>
(dM aF aq).bind λaH=>
(d9 aH.1).bind λaI=>
(dM aD aI).bind λaJ=>
(dM aD aI).bind λaK=>
bif (Nat.beq aI aE) then let aL:List LDCn:=(List.modify aD aI λe=>aG);
(dM aF aq).bind λaM=>
let aO:=w64 (aM.2.1+av);
(dM aF aq).bind λaP=>
let aQ:=(List.modify aF aq λe=>(e.1,(aO,e.2.2)));
some (aL,aQ,av,true,()) else none
def Ew:X.Cfg:=⟨E0,[jM,nq,gD],[],[⟨3,0,qE,[(.normal,qS [Uaa 1,sP 2 d8,zaa 6,zaa 9,Xaa 35] [(14,Zab),(20,uaf)])]⟩,⟨13,1,qE,[(.normal,(qS [sP 2 d8,zaa 6,zaa 9,(10,.ptr ⟨20,1,[((),(3,0))]⟩ [0,0]),Uaa 11,Zaa 12 27,Uaa 57,Uaa 58] [(14,Zab),(20,[.gap (uaa KCn) () () 0,shU (uaa KOp)]),(27,uag)]))]⟩,(lx 10 2 [sP 2 d8,zaa 6,zaa 9,(10,.ptr ⟨20,1,[((),(3,0))]⟩ [0,0]),Uaa 11,Zaa 12 27,Uaa 57,Uaa 58] [(14,Zab),(20,[.gap (uaa KCn) () () 0,shU (uaa KOp)]),(27,uag)] 59)]⟩
def wO:Ctr:=⟨191,84,[.agg zad,shU I64,shU d8],[],[⟨uL [(uaa (uaa KCn)),(uaa KOp),I64,.bool],[.agg 2,.one,.one],[]⟩],ap4 nM⟩
theorem D3:Lk 3 wO:=ls Ew (aC k8 (aC pR (aC ic aN)))
def pz(a0:List LDCn) (a1:LDOp) (a2:Int) (a3:Int):Option ((LLCn×LDOp×Unit×Bool×Unit)⊕(LLCn×LDOp×LDCn×Bool×Unit)):=
(g9 a0 a1).bind λ(x0,x1,_)=>
((iR a0 a1 a2).bind λ(x2,_)=>
bif (!x2) then (some (a2,a3,true,a0,a1,(),(),x0,x1,())) else
bif decide (a3 < 0) then (some (a2,a3,true,a0,a1,(),(),x0,x1,())) else
(d9 a2).bind λx3=>
(dM a1 x3).bind λx4=>
some (a2,a3,x4.2.2,a0,a1,(),(),x0,x1,()):Option (T2d)).bind λ(x2,x3,x4,x5,x6,x7,x8,x9,ac,_)=>
bif x4 then (some (.inl (x9,ac,(),false,()))) else
(d9 x2).bind λae=>
(dM ac ae).bind λaf=>
(dM ac ae).bind λag=>
(d9 ag.1).bind λah=>
(dM x9 ah).bind λai=>
(dM x9 ah).bind λaj=>
(dM x9 ah).bind λak=>
let am:=dN ak.length;
(dM ac ae).bind λan=>
let ap:=w64 (am - an.2.1);
let aq:=mmR false x3 ap;
(dM ac ae).bind λav=>
(dM ac ae).bind λax=>
let ay:=w64 (ax.2.1+aq);
(d9 av.2.1).bind λaz=>
(d9 ay).bind λaA=>
bif (iQ az aA ak.length) then let aB:LDCn:=(m8 ak az (Nat.sub aA az));
bif (dY 24 0 aB.length) then let aD:LDCn:=(List.append [] aB);
(dM ac ae).bind λaE=>
let aF:=w64 (aE.2.1+aq);
(dM ac ae).bind λaG=>
let aH:=(List.modify ac ae λe=>(e.1,(aF,e.2.2)));
some (.inr (x9,aH,aD,true,())) else none else none
def GG:X.Cfg:=⟨E0,[jM,nq],[],[⟨3,0,qE,[(.normal,qS [Uaa 1,Uaa 2,zaa 6,zaa 9,Xaa 31] [(8,zad),(14,Zab),(20,uaf)])]⟩]⟩
def yU:Ctr:=⟨192,85,[.agg zad,shU I64,shU I64],[],[⟨uL [(uaa (uaa KCn)),(uaa KOp),N1,.bool],[.agg 2,.one,.one],[]⟩,⟨uL [(uaa d8),(uaa KOp),(uaa KCn),.bool],[.agg 2,.one,.one],[]⟩],ap4 pz⟩
theorem Ga:Lk 2 yU:=ls GG (aC k8 (aC pR aN))
def sS:T2h->Option (T2h⊕(Int×T2d)):=λ(v0,v1,v2,v3,v4,v5)=>
let x0:=dN v4.length;
bif decide (v2 < x0) then ((d9 v2).bind λx1=>
(dM v4 x1).bind λx2=>
bif (x2.1 != (-1)) then (let x3:Int:=(w64 (v2+1));
some (.inl (v0,v1,x3,v3,v4,v5))) else
some (.inr (v0,v1,v2,false,v3,v4,v5))) else
some (.inr (v0,v1,v2,false,v3,v4,v5))
def sR:T2g->Option (T2g⊕(Int×Int×T1W)):=λ(v0,v1,v2,v3,v4,v5,v6,v7,v8,_)=>
bif decide (v4 < v3) then (((d9 v4).bind λx0=>
(dM v8 x0).bind λx1=>
(dM v8 x0).bind λx2=>
bif (x2.1==v0) then ((d9 v4).bind λx3=>
(dM v8 x3).bind λx4=>
(dM v8 x3).bind λx5=>
let x6:=(List.modify v8 x3 λe=>(e.1,(0,e.2.2)));
some (v0,v1,v2,v3,v4,v5,v6,v7,x6,())) else
some (v0,v1,v2,v3,v4,v5,v6,v7,v8,()):Option (T2g)).bind λ(x0,x1,x2,x3,x4,x5,x6,x7)=>
let x9:=w64 (x4+1);
some (.inl (x0,x1,x2,x3,x9,x5,x6,x7))) else
some (.inr (v0,v1,v2,v3,v4,false,v5,v6,v7,v8,()))
def pA(a0:List LDCn) (a1:LDOp) (a2:Int) (a3:Int):Option (LLCn×LDOp×Int×Unit):=
(g9 a0 a1).bind λ(x0,x1,_)=>
(dU sS NN (a2,a3,0,a0,a1,(),(),x0,x1,())).bind λ(x2,x3,x4,x5,x6,x7,x8)=>
(bif decide (x2 < 0) then (some (x2,x3,x4,true,x8)) else
let af:=dN x6.length;
bif decide (x2>=af) then (some (x2,x3,x4,true,x8)) else
bif decide (x3 < 0) then (some (x2,x3,x4,true,x8)) else
bif decide (x3 > 2) then (some (x2,x3,x4,true,x8)) else
let ag:=dN x7.length;
some (x2,x3,x4,(x4==ag),x8):Option (T1W)).bind λ(af,ag,ah,ai,aj,ak,am,an,_)=>
bif ai then (some (am,an,(-1),())) else
bif (ag==1) then ((d9 af).bind λap=>
(dM am ap).bind λaq=>
(dM am ap).bind λav=>
let ax:=List.modify am ap λe=>[];
let ay:=dN an.length;
(dU sR NN (af,ag,ah,ay,0,aj,ak,ax,an,())).bind λ(az,aA,aB,aD,aE,aF,aG,aH,aI,aJ,_)=>
(d9 aB).bind λaK=>
(dM aJ aK).bind λaL=>
(dM aJ aK).bind λaM=>
let aO:=(List.modify aJ aK λe=>(az,(0,(decide (aA > 0)))));
(bif (aA==2) then ((d9 az).bind λaP=>
(dM aI aP).bind λaQ=>
(dM aI aP).bind λaR=>
(dM aI aP).bind λaS=>
let aT:=dN aS.length;
(d9 aB).bind λaU=>
(dM aO aU).bind λaV=>
(dM aO aU).bind λaW=>
let aY:=(List.modify aO aU λe=>(e.1,(aT,e.2.2)));
some (aB,aG,aH,aI,aY,())) else
some (aB,aG,aH,aI,aO,()):Option (T12)).bind λ(aP,aQ,aR,aS,aT,_)=>
some (aS,aT,aP,())) else
(d9 ah).bind λap=>
(dM an ap).bind λaq=>
(dM an ap).bind λav=>
let ax:=(List.modify an ap λe=>(af,(0,(decide (ag > 0)))));
(bif (ag==2) then ((d9 af).bind λay=>
(dM am ay).bind λaz=>
(dM am ay).bind λaA=>
(dM am ay).bind λaB=>
let aD:=dN aB.length;
(d9 ah).bind λaE=>
(dM ax aE).bind λaF=>
(dM ax aE).bind λaG=>
let aH:=(List.modify ax aE λe=>(e.1,(aD,e.2.2)));
some (ah,aj,ak,am,aH,())) else
some (ah,aj,ak,am,ax,()):Option (T12)).bind λ(ay,az,aA,aB,aD,_)=>
some (aB,aD,ay,())
def GH:X.Cfg:=⟨E0,[jM],[],[(lx 4 0 [Uaa 1,Uaa 2,zaa 3,zaa 6,zaa 8,Uaa 9] [(8,zad),(14,Zab),(18,uaf)] 26),⟨8,1,qE,[(.normal,qS [Uaa 1,Uaa 2,zaa 6,zaa 8,Uaa 9,Xaa 52] [(14,Zab),(18,uaf)])]⟩,⟨17,2,qE,[(.normal,qS [Uaa 1,Uaa 2,zaa 6,zaa 8,Uaa 9,Uaa 62,Uaa 63] [(14,Zab),(18,uaf)])]⟩,⟨14,3,qS [Uaa 1,Uaa 2,zaa 6,zaa 8,Uaa 9,Uaa 62,Uaa 63] [(14,Zab),(18,uaf)],[(.exit 2,qS [Uaa 1,Uaa 2,zaa 6,zaa 8,Uaa 9,Uaa 62,Uaa 63,Xaa 64] [(14,Zab),(18,uaf)])]⟩,⟨21,4,qE,[(.normal,qS [zaa 6,zaa 8,Uaa 9] [(14,Zab),(18,uaf)])]⟩]⟩
def yV:Ctr:=⟨193,86,[.agg zad,shU I64,shU I64],[],[⟨zak,[.agg 2,.one],[]⟩],ap4 pA⟩
theorem Gb:Lk 2 yV:=ls GH (aC k8 aN)
def nN(a0:List LDCn) (a1:LDOp) (a2:Int):Option (LLCn×LDOp×Bool×Unit):=
(g9 a0 a1).bind λ(x0,x1,_)=>
(iR a0 a1 a2).bind λ(x2,_)=>
bif (!x2) then (some (x0,x1,false,())) else
(d9 a2).bind λx3=>
(dM x1 x3).bind λx4=>
(dM x1 x3).bind λx5=>
let x6:=(List.modify x1 x3 λe=>((-1),(0,false)));
some (x0,x6,true,())
def Ey:X.Cfg:=⟨E0,[jM,nq],[],[]⟩
def wP:Ctr:=⟨194,87,[.agg zad,shU I64],[],[⟨Zak,[.agg 2,.one],[]⟩],ap3 nN⟩
theorem D4:Lk 2 wP:=ls Ey (aC k8 (aC pR aN))
def py(a0:List LDCn) (a1:LDOp) (a2:Int) (a3:Int):Option (LLCn×LDOp×Bool×Unit):=
(g9 a0 a1).bind λ(x0,x1,_)=>
((iR a0 a1 a2).bind λ(x2,_)=>
bif (!x2) then (some (a2,a3,true,(),(),x0,x1,())) else
bif decide (a3 < 0) then (some (a2,a3,true,(),(),x0,x1,())) else
(d9 a2).bind λx3=>
(dM a1 x3).bind λx4=>
(d9 x4.1).bind λx5=>
(dM a0 x5).bind λx6=>
let x7:=dN x6.length;
some (a2,a3,(decide (a3 > x7)),(),(),x0,x1,()):Option (T1D)).bind λ(x2,x3,x4,x5,x6,x7,x8,_)=>
bif x4 then (some (x7,x8,false,())) else
(d9 x2).bind λx9=>
(dM x8 x9).bind λac=>
(dM x8 x9).bind λae=>
let af:=(List.modify x8 x9 λe=>(e.1,(x3,e.2.2)));
some (x7,af,true,())
def GF:X.Cfg:=⟨E0,[jM,nq],[],[⟨3,0,qE,[(.normal,qS [Uaa 1,Uaa 2,zaa 6,zaa 8,Xaa 33] [(14,Zab),(18,uaf)])]⟩]⟩
def yT:Ctr:=⟨195,88,[.agg zad,shU I64,shU I64],[],[⟨Zak,[.agg 2,.one],[]⟩],ap4 py⟩
theorem F9:Lk 2 yT:=ls GF (aC k8 (aC pR aN))
def px(a0:LDOu) (a1:Int) (a2:LDCn):Option (LDOu×T01):=
(kV a0).bind λ(x0,_)=>
(bif decide (a1 < 0) then (some (a0,a1,a2,true,x0,())) else
bif decide (a1>=2) then (some (a0,a1,a2,true,x0,())) else
let x1:=dN a0.length;
bif decide (x1>=200) then (some (a0,a1,a2,true,x0,())) else
let x2:=dN a2.length;
some (a0,a1,a2,(decide (x2 > 16)),x0,()):Option (LDOu×Int×LDCn×Bool×LDOu×Unit)).bind λ(x1,x2,x3,x4,x5,_)=>
bif x4 then (some (x5,0,false,())) else
let x6:=dN x1.length;
bif (dY 24 0 x3.length) then let x7:LDCn:=(List.append [] x3);
let x8:LDOu:=[(x6,(x2,x7))];
bif (dY 40 x5.length x8.length) then let x9:LDOu:=(List.append x5 x8);
let ac:=dN x3.length;
some (x9,ac,true,()) else none else none
def GC:X.Cfg:=⟨E0,[tL],[(36,Jl),(37,Jl)],[⟨3,0,qE,[(.normal,qS [sP 0 ke,Uaa 1,sP 2 d8,Zaa 9 21,Xaa 27] [(21,yaj)])]⟩]⟩
def yS:Ctr:=⟨196,89,uL [ke,I64,d8],[],[⟨uL [(uaa Jl),I64,.bool],[.one,.one,.one],[]⟩],ap3 px⟩
theorem F8:Lk 2 yS:=ls GC (aC yz aN)
def g8:T1I->Option (T1I⊕(Int×Int×LI×Int×Int×Bool×LLI×LDCn×Unit)):=λ(v0,v1,v2,v3,v4,v5,v6,_)=>
bif decide (v4 < v3) then ((d9 v4).bind λx0=>
(dM v2 x0).bind λx1=>
let x2:LDCn:=[(0,(x1,(0,0)))];
bif (dY 24 v6.length x2.length) then let x3:LDCn:=(List.append v6 x2);
let x4:=w64 (v4+1);
some (.inl (v0,v1,v2,v3,x4,v5,x3,())) else none) else
some (.inr (v0,v1,v2,v3,v4,false,v5,v6,()))
def lr(a0:List LI) (a1:Int) (a2:Int):Option ((LLI×Unit×Bool×Unit)⊕(LLI×LDCn×Bool×Unit)):=
(f9 a0).bind λ(x0,_)=>
(bif decide (a1 < 0) then (some (a0,a1,a2,true,x0,())) else
let x1:=dN a0.length;
bif decide (a1>=x1) then (some (a0,a1,a2,true,x0,())) else
some (a0,a1,a2,(decide (a2 < 0)),x0,()):Option (LLI×Int×Int×Bool×LLI×Unit)).bind λ(x1,x2,x3,x4,x5,_)=>
bif x4 then (some (.inl (x5,(),false,()))) else
(d9 x2).bind λx6=>
(dM x1 x6).bind λx7=>
let x8:=dN x7.length;
let x9:=mmR false x3 x8;
(d9 x2).bind λac=>
(dM x1 ac).bind λae=>
(d9 x9).bind λaf=>
bif (iQ 0 af ae.length) then let ag:List (Int):=(m8 ae 0 (Nat.sub af 0));
let ah:=dN ag.length;
(dU g8 NN (x2,x9,ag,ah,0,x5,[],())).bind λ(ai,aj,ak,am,an,ap,aq,av,_)=>
(d9 ai).bind λax=>
(dM aq ax).bind λay=>
(dM aq ax).bind λaz=>
(dM aq ax).bind λaA=>
(d9 aj).bind λaB=>
bif (iQ aB aA.length aA.length) then (dM aq ax).bind λaD=>
(d9 ai).bind λaE=>
(dM aq aE).bind λaF=>
(dM aq ax).bind λaG=>
(dM aq aE).bind λaH=>
let aI:=(List.modify aq aE λe=>(m8 aG aB (Nat.sub aA.length aB)));
some (.inr (aI,av,true,())) else none else none
def A8:X.Cfg:=⟨E0,[jp],[],[⟨3,0,qE,[(.normal,qS [sP 0 (yaa RW),Uaa 1,Uaa 2,Zaa 9 21,Xaa 27] [(21,Uai)])]⟩,(lx 9 1 [Uaa 1,Zaa 9 21,Uaa 10,Zaa 11 25,sP 41 RW,Uaa 42,Uaa 43] [(21,Uai),(25,uag)] 44)]⟩
def tJ:Ctr:=⟨197,90,uL [(yaa RW),I64,I64],[],[⟨uL [(uaa (uaa CW)),N1,.bool],[.one,.one,.one],[]⟩,⟨uL [(uaa RW),(uaa KCn),.bool],[.one,.one,.one],[]⟩],ap3 lr⟩
theorem AP:Lk 2 tJ:=ls A8 (aC lS aN)
def vG:T3U->Option (T3U⊕(LDCn×Int×Int×Bool×T3L)):=λ(v0,v1,v2,v3,v4,v5,v6,v7,v8,v9,v10,v11,v12,v13,v14,v15,v16,v17,v18,v19,v20,v21,v22,v23,v24,v25,v26,v27,v28,v29,v30,v31,v32,v33,v34,v35,v36,_)=>
bif decide (v2 < v1) then ((d9 v2).bind λx0=>
(dM v0 x0).bind λx1=>
let x2:=wk .i64 x1.2.1;
(d9 v2).bind λx3=>
(dM v36 x3).bind λx4=>
(dM v36 x3).bind λx5=>
let x6:=List.modify v36 x3 λe=>x2;
let x7:=w64 (v2+1);
some (.inl (v0,v1,x7,v3,v4,v5,v6,v7,v8,v9,v10,v11,v12,v13,v14,v15,v16,v17,v18,v19,v20,v21,v22,v23,v24,v25,v26,v27,v28,v29,v30,v31,v32,v33,v34,v35,x6,()))) else
some (.inr (v0,v1,v2,false,v3,v4,v5,v6,v7,v8,v9,v10,v11,v12,v13,v14,v15,v16,v17,v18,v19,v20,v21,v22,v23,v24,v25,v26,v27,v28,v29,v30,v31,v32,v33,v34,v35,v36,()))
def qm(a0:List (Int)) (a1:List (Int)) (a2:List LI) (a3:List LDCn) (a4:LDOp) (a5:LDOu) (a6:Int) (a7:Int) (a8:Int) (a9:Int) (a10:Int) (a11:Int) (a12:LDCn) (a13:LDCn):Option (LI×LI×LLI×LLCn×LDOp×LDOu×Int×Int×Int×Int×LDCn×Int×Bool×Int×Unit):=
((jS a0 a1 a2 a3 a4 a5).bind λ(x0,_)=>
bif (!x0) then (some (true,a0,a1,a2,a3,a4,a5,a6,a7,a8,a9,a10,a11,a12,a13,(),(),(),(),(),(),0,0,0,0,(),0,false,())) else
(lC a6 a7 a8 a9 a10 a11 a12 a13).bind λ(x1,_)=>
bif (!x1) then (some (true,a0,a1,a2,a3,a4,a5,a6,a7,a8,a9,a10,a11,a12,a13,(),(),(),(),(),(),0,0,0,0,(),0,false,())) else
bif (a7 != 1) then (some (true,a0,a1,a2,a3,a4,a5,a6,a7,a8,a9,a10,a11,a12,a13,(),(),(),(),(),(),0,0,0,0,(),0,false,())) else
(sQ a11).bind λ(x2,_)=>
bif (!x2) then (some (true,a0,a1,a2,a3,a4,a5,a6,a7,a8,a9,a10,a11,a12,a13,(),(),(),(),(),(),0,0,0,0,(),0,false,())) else
(nO a6 a7 a8 a9 a10 a11 a12 a13).bind λ(x3,_)=>
bif (!x3) then (some (true,a0,a1,a2,a3,a4,a5,a6,a7,a8,a9,a10,a11,a12,a13,(),(),(),(),(),(),0,0,0,0,(),0,false,())) else
(jf a11).bind λ(x4,_)=>
bif (x4==2) then ((dM a12 2).bind λx5=>
some ((decide (x5.2.1 > 16)),a0,a1,a2,a3,a4,a5,a6,a7,a8,a9,a10,a11,a12,a13,(),(),(),(),(),(),0,0,0,0,(),0,false,())) else
some (false,a0,a1,a2,a3,a4,a5,a6,a7,a8,a9,a10,a11,a12,a13,(),(),(),(),(),(),0,0,0,0,(),0,false,()):Option (Bool×LI×LI×LLI×LLCn×LDOp×LDOu×Int×Int×Int×Int×Int×Int×LDCn×LDCn×Unit×Unit×Unit×Unit×Unit×Unit×T1F)).bind λ(x0,x1,x2,x3,x4,x5,x6,x7,x8,x9,ac,ae,af,ag,ah,ai,aj,ak,am,an,ap,aq,av,ax,ay,az,aA,aB,_)=>
bif x0 then (some ([],[],[],[],[],[],0,0,0,0,[],0,false,1,())) else
(pu x1 x2 x3 x4 x5 x6).bind λ(aD,aE,aF,aG,aH,aI,_)=>
let aJ:List (Int):=[0,0,0];
let aK:=dN ag.length;
(dU vG NN (ag,aK,0,x1,x2,x3,x4,x5,x6,x7,x8,x9,ac,ae,af,ag,ah,ai,aj,ak,am,an,ap,aq,av,ax,ay,az,aA,aB,aD,aE,aF,aG,aH,aI,aJ,())).bind λ(aL,aM,aO,aP,aQ,aR,aS,aT,aU,aV,aW,aY,aZ,ba,bc,bd,bf,bg,bh,bi,bj,bk,bl,bm,bn,bo,bp,bq,bt,bv,bx,bA,bB,bC,bD,bE,bF,bG,_)=>
(ek 0 false).bind λ(bH,bI,bJ,bK,bL)=>
(match (bif (bd==1) then ((dM bG 0).bind λbO=>
(dM bG 0).bind λbP=>
(nM aT aU bP bg).bind λ(bQ,bR,bS,bT,_)=>
(ek bS bT).bind λ(bU,bV,bW,bY,bZ,b8,b9,_)=>
some (.inl (bh,bi,bj,bk,bl,bm,bn,bo,bp,bq,bt,bv,bx,bA,bB,bC,bQ,bR,bF,bU,bV,bW,bY,[],b8,b9,()))) else
bif (bd==2) then ((dM bG 0).bind λbO=>
(dM bG 0).bind λbP=>
(dM bG 2).bind λbQ=>
(dM bG 2).bind λbR=>
(match pz aT aU bP bR with
| none=>none
| some (.inl (bS,bT,bU,bV,_))=>
(ek 0 bV).bind λ(bW,bY,bZ,b8,b9,ca,cd,_)=>
some (.inl (bh,bi,bj,bk,bl,bm,bn,bo,bp,bq,bt,bv,bx,bA,bB,bC,bS,bT,bF,bW,bY,bZ,b8,[],ca,cd,()))
| some (.inr (bS,bT,bU,bV,_))=>
let bW:=dN bU.length;
(ek bW bV).bind λ(bY,bZ,b8,b9,ca,cd,cf,_)=>
some (.inl (bh,bi,bj,bk,bl,bm,bn,bo,bp,bq,bt,bv,bx,bA,bB,bC,bS,bT,bF,bY,bZ,b8,b9,bU,cd,cf,())))) else
bif (bd==3) then ((dM bG 0).bind λbO=>
(dM bG 0).bind λbP=>
(dM bG 1).bind λbQ=>
(dM bG 1).bind λbR=>
(pA aT aU bP bR).bind λ(bS,bT,bU,_)=>
bif decide (bU>=0) then (let bV:Int:=(wk .u16 bU);
some (.inr (.inl (bh,bi,bj,bk,bl,bm,bn,bo,bp,bq,bt,bv,bx,bA,bB,bC,bS,bT,bF,2,bV,0,0,bL)))) else
some (.inr (.inl (bh,bi,bj,bk,bl,bm,bn,bo,bp,bq,bt,bv,bx,bA,bB,bC,bS,bT,bF,bH,bI,bJ,bK,bL)))) else
bif (bd==4) then ((dM bG 0).bind λbO=>
(dM bG 0).bind λbP=>
(nN aT aU bP).bind λ(bQ,bR,bS,_)=>
(ek 0 bS).bind λ(bT,bU,bV,bW,bY,bZ,b8,_)=>
some (.inl (bh,bi,bj,bk,bl,bm,bn,bo,bp,bq,bt,bv,bx,bA,bB,bC,bQ,bR,bF,bT,bU,bV,bW,[],bZ,b8,()))) else
bif (bd==5) then ((dM bG 0).bind λbO=>
(dM bG 0).bind λbP=>
(dM bG 1).bind λbQ=>
(dM bG 1).bind λbR=>
(py aT aU bP bR).bind λ(bS,bT,bU,_)=>
(ek 0 bU).bind λ(bV,bW,bY,bZ,b8,b9,ca,_)=>
some (.inl (bh,bi,bj,bk,bl,bm,bn,bo,bp,bq,bt,bv,bx,bA,bB,bC,bS,bT,bF,bV,bW,bY,bZ,[],b9,ca,()))) else
bif (bd==6) then (let bO:Int:=(dN aQ.length);
bif decide (bO > 0) then ((dM aQ 0).bind λbP=>
let bQ:=wk .i64 bP;
(ek bQ true).bind λ(bR,bS,bT,bU,bV,bW,bY,_)=>
bif (iQ 1 bA.length bA.length) then let bZ:List (Int):=(m8 bA 1 (Nat.sub bA.length 1));
some (.inr (.inr (.inl (bh,bi,bj,bk,bl,bm,bn,bo,bp,bq,bt,bv,bx,bZ,bB,bC,bD,bE,bF,bR,bS,bT,bU,bV,bW,bY,())))) else none) else
some (.inr (.inl (bh,bi,bj,bk,bl,bm,bn,bo,bp,bq,bt,bv,bx,bA,bB,bC,bD,bE,bF,bH,bI,bJ,bK,bL)))) else
bif (bd==7) then (let bO:Int:=(dN aR.length);
bif decide (bO > 0) then ((dM aR 0).bind λbP=>
let bQ:=wk .i64 bP;
(ek bQ true).bind λ(bR,bS,bT,bU,bV,bW,bY,_)=>
bif (iQ 1 bB.length bB.length) then let bZ:List (Int):=(m8 bB 1 (Nat.sub bB.length 1));
some (.inr (.inr (.inr (.inl (bh,bi,bj,bk,bl,bm,bn,bo,bp,bq,bt,bv,bx,bA,bZ,bC,bD,bE,bF,bR,bS,bT,bU,bV,bW,bY,()))))) else none) else
some (.inr (.inl (bh,bi,bj,bk,bl,bm,bn,bo,bp,bq,bt,bv,bx,bA,bB,bC,bD,bE,bF,bH,bI,bJ,bK,bL)))) else
bif (bd==13) then ((dM bG 0).bind λbO=>
(dM bG 0).bind λbP=>
(px aV bP bg).bind λ(bQ,bR,bS,_)=>
(ek bR bS).bind λ(bT,bU,bV,bW,bY,bZ,b8,_)=>
some (.inr (.inl (bh,bi,bj,bk,bl,bm,bn,bo,bp,bq,bt,bv,bx,bA,bB,bC,bD,bE,bQ,bT,bU,bV,bW,bY,bZ,b8,())))) else
bif (bd==14) then ((dM bG 0).bind λbO=>
(dM bG 0).bind λbP=>
(dM bG 2).bind λbQ=>
(dM bG 2).bind λbR=>
(match lr aS bP bR with
| none=>none
| some (.inl (bS,bT,bU,_))=>
(ek 0 bU).bind λ(bV,bW,bY,bZ,b8,b9,ca,_)=>
some (.inr (.inl (bh,bi,bj,bk,bl,bm,bn,bo,bp,bq,bt,bv,bx,bA,bB,bS,bD,bE,bF,bV,bW,bY,bZ,bT,b9,ca,())))
| some (.inr (bS,bT,bU,_))=>
let bV:=dN bT.length;
(ek bV bU).bind λ(bW,bY,bZ,b8,b9,ca,cd,_)=>
some (.inr (.inr (.inr (.inr (bh,bi,bj,bk,bl,bm,bn,bo,bp,bq,bt,bv,bx,bA,bB,bS,bD,bE,bF,bW,bY,bZ,b8,bT,ca,cd,()))))))) else
some (.inr (.inl (bh,bi,bj,bk,bl,bm,bn,bo,bp,bq,bt,bv,bx,bA,bB,bC,bD,bE,bF,bH,bI,bJ,bK,bL))):Option (T3B⊕(T3C⊕(T3C⊕(T3C⊕T3B))))) with
| none=>none
| some (.inl (bO,bP,bQ,bR,bS,bT,bU,bV,bW,bY,bZ,b8,b9,ca,cd,cf,cg,ch,ci,cj,cl,cn,cq,cr,cu,cw,_))=>
some (ca,cd,cf,cg,ch,ci,cj,cl,cn,cq,cr,cu,cw,0,())
| some (.inr (.inl (bO,bP,bQ,bR,bS,bT,bU,bV,bW,bY,bZ,b8,b9,ca,cd,cf,cg,ch,ci,cj,cl,cn,cq,cr,cu,cw,_)))=>
some (ca,cd,cf,cg,ch,ci,cj,cl,cn,cq,[],cu,cw,0,())
| some (.inr (.inr (.inl (bO,bP,bQ,bR,bS,bT,bU,bV,bW,bY,bZ,b8,b9,ca,cd,cf,cg,ch,ci,cj,cl,cn,cq,cr,cu,cw,_))))=>
some (ca,cd,cf,cg,ch,ci,cj,cl,cn,cq,[],cu,cw,0,())
| some (.inr (.inr (.inr (.inl (bO,bP,bQ,bR,bS,bT,bU,bV,bW,bY,bZ,b8,b9,ca,cd,cf,cg,ch,ci,cj,cl,cn,cq,cr,cu,cw,_)))))=>
some (ca,cd,cf,cg,ch,ci,cj,cl,cn,cq,[],cu,cw,0,())
| some (.inr (.inr (.inr (.inr (bO,bP,bQ,bR,bS,bT,bU,bV,bW,bY,bZ,b8,b9,ca,cd,cf,cg,ch,ci,cj,cl,cn,cq,cr,cu,cw,_)))))=>
some (ca,cd,cf,cg,ch,ci,cj,cl,cn,cq,cr,cu,cw,0,()))
def Ln:X.Cfg:=⟨E0,[of,rR,yR,wQ,kp,tI,l7,wO,yU,yV,wP,yT,yS,tJ],[],[⟨2,0,qE,[(.normal,qS [zaa 2,zaa 3,zaa 4,zaa 5,Xaa 67] [(6,Xag),(8,uad),(10,Zah),(12,Xae)])]⟩,(lx 8 1 [zaa 2,zaa 3,zaa 4,zaa 5,zaa 7,Zaa 8 19,sP 74 d8,Uaa 75,Uaa 76] [(6,Xag),(8,uad),(10,Zah),(12,Xae),(16,zaj),(19,zae)] 77),⟨14,2,qE,[(.normal,(qS [zaa 4,zaa 5,zaa 7,zaa 11] [(10,Zah),(12,Xae),(16,uL [(uaa CW),(uaa CW),(uaa (uaa CW)),(yaa d8),iP,(uaa Jl)]),(24,ual)])),(.normal,qS [zaa 4,zaa 5,zaa 7,zaa 11] [(10,Zah),(12,Xae),(16,zaj),(24,Xae)]),(.normal,(qS [zaa 4,zaa 5,zaa 7,zaa 11] [(10,Zah),(12,Xae),(16,uL [RW,(uaa CW),(uaa (uaa CW)),(uaa (uaa KCn)),(uaa KOp),(uaa Jl)]),(24,Xae)])),(.normal,(qS [zaa 4,zaa 5,zaa 7,zaa 11] [(10,Zah),(12,Xae),(16,uL [(uaa CW),RW,(uaa (uaa CW)),(uaa (uaa KCn)),(uaa KOp),(uaa Jl)]),(24,Xae)])),(.normal,(qS [zaa 4,zaa 5,zaa 7,zaa 11] [(10,Zah),(12,Xae),(16,uL [(uaa CW),(uaa CW),(uaa RW),(uaa (uaa KCn)),(uaa KOp),(uaa Jl)]),(24,ual)]))]⟩]⟩
def Dt:Ctr:=⟨178,91,[.agg Xag,.agg uad],[],[⟨uL [RW,RW,(yaa RW),(yaa d8),iP,ke,CB,CW,I64,I64,d8,I64,.bool,I64],[.agg 6,.agg 7,.one],[]⟩],ap14 qm⟩
theorem Lf:Lk 5 Dt:=ls Ln (aC ry (aC wg (aC F7 (aC D5 (aC mX (aC yy (aC n9 (aC D3 (aC Ga (aC Gb (aC D4 (aC F9 (aC F8 (aC AP aN))))))))))))))
def ln:T3F->Option (T3F⊕(T3x⊕(LDTh×Int×Int×Bool×T3x))):=λ(v0,v1,v2,v3,v4,v5,v6,v7,v8,v9,v10,v11,v12,v13,v14,v15,v16,v17,v18,v19,v20,v21)=>
bif decide (v2 < v1) then ((d9 v2).bind λx0=>
(dM v0 x0).bind λx1=>
bif (x1.1==0) then ((ek v2 true).bind λ(x2,x3,x4,x5,x6,x7,x8,_)=>
some (.inr (.inl (v3,v4,v5,v6,v7,v8,v9,v10,v11,v12,v13,v14,v15,v16,v17,v18,v19,v20,x2,x3,x4,x5,x6,v2,x8,())))) else
let x2:=w64 (v2+1);
some (.inl (v0,v1,x2,v3,v4,v5,v6,v7,v8,v9,v10,v11,v12,v13,v14,v15,v16,v17,v18,v19,v20,v21))) else
some (.inr (.inr (v0,v1,v2,false,v3,v4,v5,v6,v7,v8,v9,v10,v11,v12,v13,v14,v15,v16,v17,v18,v19,v20,v21)))
def lp(a0:Int) (a1:Int) (a2:Int) (a3:Int) (a4:Int) (a5:Int) (a6:LDCn) (a7:LDCn) (a8:LDIn) (a9:List (Int)) (a10:List LI) (a11:List (Int)) (a12:Int) (a13:LDCe) (a14:LDLn) (a15:LDTh) (a16:List (Int)) (a17:List (Int)) (a18:List LI) (a19:List LDCn) (a20:LDOp) (a21:LDOu) (a22:List (Int)) (a23:List LI) (a24:LDEn) (a25:List (Int)):Option (Int×Int×Int×Int×LDCn×T3p):=
(bif (a5==0) then (some (a5,true,a8,a9,a10,a11,a12,a13,a14,a15,a16,a17,a18,a19,a20,a21,a22,a23,a24,a25,a0,a1,a2,a3,a4,a5,a6,a7,0,0,0,0,(),0,false,())) else
bif (a5==12) then (some (a5,true,a8,a9,a10,a11,a12,a13,a14,a15,a16,a17,a18,a19,a20,a21,a22,a23,a24,a25,a0,a1,a2,a3,a4,a5,a6,a7,0,0,0,0,(),0,false,())) else
some (a5,(a5==15),a8,a9,a10,a11,a12,a13,a14,a15,a16,a17,a18,a19,a20,a21,a22,a23,a24,a25,a0,a1,a2,a3,a4,a5,a6,a7,0,0,0,0,(),0,false,()):Option (T3M)).bind λ(x0,x1,x2,x3,x4,x5,x6,x7,x8,x9,ac,ae,af,ag,ah,ai,aj,ak,am,an,ap,aq,av,ax,ay,az,aA,aB,aD)=>
bif x1 then ((ek 0 true).bind λ(aK,aL,aM,aO,aP,aQ,aR,_)=>
some (aK,aL,aM,aO,[],aQ,aR,x2,x3,x4,x5,x6,x7,x8,x9,ac,ae,af,ag,ah,ai,aj,ak,am,an,())) else
bif (x0==8) then ((dM aA 0).bind λaK=>
let aL:=wk .i64 aK.2.1;
(pB aj ak aL ap).bind λ(aM,aO,aP,_)=>
(ek 0 (aP != 2)).bind λ(aQ,aR,aS,aT,aU,aV,aW,_)=>
some (aQ,aR,aS,aT,[],aV,(aP==1),x2,x3,x4,x5,x6,x7,x8,x9,ac,ae,af,ag,ah,ai,aM,aO,am,an,())) else
bif (x0==9) then ((dM aA 0).bind λaK=>
let aL:=wk .i64 aK.2.1;
(kW aj ak aL ap).bind λ(aM,aO,aP,aQ,_)=>
(ek 0 aQ).bind λ(aR,aS,aT,aU,aV,aW,aY,_)=>
some (aR,aS,aT,aU,[],aW,aY,x2,x3,x4,x5,x6,x7,x8,x9,ac,ae,af,ag,ah,ai,aM,aO,am,an,())) else
bif (x0==10) then (let aK:Int:=(dN x9.length);
(match dU ln NN (x9,aK,0,x2,x3,x4,x5,x6,x7,x8,x9,ac,ae,af,ag,ah,ai,aj,ak,am,an,aD) with
| none=>none
| some (.inl (aL,aM,aO,aP,aQ,aR,aS,aT,aU,aV,aW,aY,aZ,ba,bc,bd,bf,bg,bh,bi,bj,bk,bl,bm,bn,_))=>
some (bh,bi,bj,bk,[],bm,bn,aL,aM,aO,aP,aQ,aR,aS,aT,aU,aV,aW,aY,aZ,ba,bc,bd,bf,bg,())
| some (.inr (aL,aM,aO,aP,aQ,aR,aS,aT,aU,aV,aW,aY,aZ,ba,bc,bd,bf,bg,bh,bi,bj,bk,bl,bm,bn,bo,bp,bq,bt,_))=>
(ek 0 false).bind λ(bv,bx,bA,bB,bC,bD,bE,_)=>
some (bv,bx,bA,bB,[],bD,bE,aQ,aR,aS,aT,aU,aV,aW,aY,aZ,ba,bc,bd,bf,bg,bh,bi,bj,bk,()))) else
bif (x0==11) then ((dM aA 0).bind λaK=>
let aL:=wk .i64 aK.2.1;
(bif (aL==ap) then (some (aL,true,x2,x3,x4,x5,x6,x7,x8,x9,ac,ae,af,ag,ah,ai,aj,ak,am,an,ap,aq,av,ax,ay,az,aA,aB,aD)) else
bif decide (aL>=4) then (some (aL,true,x2,x3,x4,x5,x6,x7,x8,x9,ac,ae,af,ag,ah,ai,aj,ak,am,an,ap,aq,av,ax,ay,az,aA,aB,aD)) else
(d9 aL).bind λaM=>
(dM x9 aM).bind λaO=>
some (aL,(aO.1==0),x2,x3,x4,x5,x6,x7,x8,x9,ac,ae,af,ag,ah,ai,aj,ak,am,an,ap,aq,av,ax,ay,az,aA,aB,aD):Option (T3M)).bind λ(aM,aO,aP,aQ,aR,aS,aT,aU,aV,aW,aY,aZ,ba,bc,bd,bf,bg,bh,bi,bj,bk,bl,bm,bn,bo,bp,bq,bt,bv,bx,bA,bB,bC,bD,bE,_)=>
bif aO then ((ek 0 false).bind λ(bF,bG,bH,bI,bJ,bK,bL,_)=>
some (bF,bG,bH,bI,[],bK,bL,aP,aQ,aR,aS,aT,aU,aV,aW,aY,aZ,ba,bc,bd,bf,bg,bh,bi,bj,())) else
(d9 aM).bind λbF=>
(dM aW bF).bind λbG=>
bif (bG.1==4) then (let bH:Int:=(wk .i64 bG.2.2.2.2.2.2.2);
(ek bH true).bind λ(bI,bJ,bK,bL,bM,bN,bO,_)=>
some (bI,bJ,bK,bL,[],bN,bO,aP,aQ,aR,aS,aT,aU,aV,aW,aY,aZ,ba,bc,bd,bf,bg,bh,bi,bj,())) else
(d9 bk).bind λbH=>
(dM bj bH).bind λbI=>
(dM bj bH).bind λbJ=>
let bK:=List.modify bj bH λe=>aM;
(ek 0 true).bind λ(bL,bM,bN,bO,bP,bQ,bR,_)=>
some (bL,bM,bN,bO,[],bQ,true,aP,aQ,aR,aS,aT,aU,aV,aW,aY,aZ,ba,bc,bd,bf,bg,bh,bi,bK,())) else
(qm ac ae af ag ah ai ap aq av ax ay az aA aB).bind λ(aK,aL,aM,aO,aP,aQ,aR,aS,aT,aU,aV,aW,aY,aZ,_)=>
some (aR,aS,aT,aU,aV,aW,aY,x2,x3,x4,x5,x6,x7,x8,x9,aK,aL,aM,aO,aP,aQ,aj,ak,am,an,())
def A7:X.Cfg:=⟨E0,[l7,yW,pX,Dt],[],[⟨3,0,qE,[(.normal,qS [zaa 0,zaa 3,zaa 4,Uaa 21,Xaa 22] [(2,yad),(8,uad),(10,Xae)])]⟩,⟨20,1,qS [zaa 0,zaa 4,sP 87 gH,Uaa 88,Uaa 89] [(2,yad),(10,Xae)],[(.ret,qS [zaa 0,zaa 4] [(2,yad),(10,Xae)]),(.exit 1,qS [zaa 0,zaa 4,sP 87 gH,Uaa 88,Uaa 89,Xaa 90] [(2,yad),(10,Xae)])]⟩,⟨33,2,qE,[(.normal,qS [zaa 0,zaa 3,zaa 4,Uaa 14,Xaa 131] [(2,yad),(8,uad),(10,Xae)])]⟩]⟩
def tH:Ctr:=⟨164,92,[.ptr ⟨2,0,[]⟩ [0],.agg uad],[(2,yad)],[⟨Zaf,[.agg 7],[(2,yad)]⟩],ap26 lp⟩
theorem AO:Lk 6 tH:=ls A7 (aC n9 (aC Gd (aC tk (aC Lf aN))))
def lz(a0:Int) (a1:Int) (a2:Int) (a3:Int) (a4:LDCn) (a5:Int) (a6:Bool):Option (Bool×Unit):=
(iS a0 a1 a2 a3).bind λ(x0,_)=>
bif x0 then ((ff a4 16).bind λ(x1,_)=>
bif x1 then (bif (decide (a5>=(-1))) then (some ((decide (a5 < 4)),())) else
some (false,())) else
some (false,())) else
some (false,())
def Ez:X.Cfg:=⟨E0,[tP,gD],[],[]⟩
def rN:Ctr:=⟨180,93,[.agg Zaf],[],[⟨yab,[.one],[]⟩],ap7 lz⟩
theorem vW:Lk 3 rN:=ls Ez (aC yC (aC ic aN))
def ii(a0:List (Int)) (a1:Int) (a2:List (Int)) (a3:Int) (a4:Int) (a5:Int) (a6:Int):Option (T0f):=
(ij a2 a3 a4 a5 a6).bind λ(x0,_)=>
bif (!x0) then (some (0,0,1,())) else
bif (a3==0) then (some (0,a4,0,())) else
bif (a3==2) then (let x1:Int:=(wk .u16 (a4+a1));
some (2,x1,0,())) else
(d9 a5).bind λx1=>
(dM a0 x1).bind λx2=>
let x3:=w64 (x2+a6);
let x4:=wk .u16 x3;
some (1,x4,0,())
def IM:X.Cfg:=⟨E0,[kq],[],[]⟩
def rV:Ctr:=⟨68,94,[.agg Uab,shU RI,.agg Uaf],[],[⟨Xai,[.agg 2,.one],[]⟩],ap7 ii⟩
theorem vk:Lk 3 rV:=ls IM (aC mY aN)
def lI(a0:List (Int)) (a1:Int) (a2:List (Int)) (a3:Int) (a4:Int):Option (T02):=
(gE a2 a3 a4).bind λ(x0,_)=>
bif (!x0) then (some (0,6,())) else
(d9 a3).bind λx1=>
(dM a0 x1).bind λx2=>
let x3:=w64 (x2+a4);
some (x3,0,())
def Bf:X.Cfg:=⟨E0,[kt],[],[]⟩
def tW:Ctr:=⟨198,95,[.agg Uab,shU RI,.agg Uac],[],[⟨Uac,[.one,.one],[]⟩],ap5 lI⟩
theorem AW:Lk 2 tW:=ls Bf (aC mZ aN)
def vH:Option (T24):=
bif (uy 8 8 2) then let x0:LDCe:=(List.replicate 8 (0,0));
some (0,x0,0,0,(-1),(-1),0,0,()) else none
def EM:X.Cfg:=⟨E0,[],[],[]⟩
def wV:Ctr:=⟨205,96,[],[],[⟨uah,[.agg 8],[]⟩],λh=>vH⟩
theorem Ea:Lk 1 wV:=ls EM aN
def ri(a0:Int) (a1:Int) (a2:Int):Option (T24):=
(vH).bind λ(x0,x1,x2,x3)=>
(dM x1 0).bind λx8=>
(dM x1 0).bind λx9=>
let ac:=List.modify x1 0 λe=>(a1,a2);
some (1,ac,a0,x3)
def IJ:X.Cfg:=⟨E0,[wV],[],[]⟩
def BI:Ctr:=⟨199,97,[shU I64,.agg uac],[],[⟨uah,[.agg 8],[]⟩],ap3 ri⟩
theorem Iv:Lk 2 BI:=ls IJ (aC Ea aN)
def mJ:T3G->Option (T3G⊕(T1d⊕T3H)):=λ(v0,v1,v2,v3,v4,v5,v6,v7,v8,v9,v10,v11,v12,v13,v14,v15,v16,v17,v18,v19,v20,v21,v22,v23,v24,v25,v26,v27,v28,v29,v30,_)=>
bif decide (v3 < v2) then ((d9 v3).bind λx0=>
(dM v1 x0).bind λx1=>
(ii v4 v5 v10 x1.1 x1.2.1 x1.2.2.1 x1.2.2.2).bind λ(x2,x3,x4,_)=>
bif (x4 != 0) then (some (.inr (.inl (false,v4,v5,v6,v7,v8,())))) else
(gE v10 v29 v30).bind λ(x5,_)=>
bif (!x5) then (some (.inr (.inl (false,v4,v5,v6,v7,v8,())))) else
(lI v4 v5 v10 v29 v30).bind λ(x6,x7,_)=>
(lF x6 x2 x3 v6 v7).bind λ(x8,x9,_)=>
let ac:=w64 (v30+1);
let ae:=w64 (v3+1);
some (.inl (v0,v1,v2,ae,v4,v5,x8,x9,v8,v9,v10,v11,v12,v13,v14,v15,v16,v17,v18,v19,v20,v21,v22,v23,v24,v25,v26,v27,v28,v29,ac,()))) else
some (.inr (.inr (v0,v1,v2,v3,false,v4,v5,v6,v7,v8,v9,v10,v11,v12,v13,v14,v15,v16,v17,v18,v19,v20,v21,v22,v23,v24,v25,v26,v27,v28,v29,v30,())))
def re(a0:LDIn) (a1:List (Int)) (a2:List LI) (a3:Int) (a4:Int) (a5:Int) (a6:Int) (a7:Int) (a8:Int) (a9:LDCn) (a10:LDCn) (a11:Int) (a12:Int) (a13:Int) (a14:Int) (a15:LDCn) (a16:Int) (a17:Bool) (a18:List (Int)) (a19:Int) (a20:LDCe) (a21:LDLn) (a22:LDTh):Option (T1d):=
(d9 a3).bind λx0=>
(dM a22 x0).bind λx1=>
(ii a18 a19 a1 a11 a12 a13 a14).bind λ(x2,x3,x4,_)=>
bif (x4 != 0) then (some (false,a18,a19,a20,a21,a22,())) else
(match ((jf a8).bind λ(x5,_)=>
bif (x5==2) then (let x6:Int:=(dN a15.length);
bif decide (x6 > 0) then ((dM a9 1).bind λx7=>
(dM a9 1).bind λx8=>
(dM a9 1).bind λx9=>
(ij a1 x9.1 x9.2.1 x9.2.2.1 x9.2.2.2).bind λ(ac,_)=>
bif (!ac) then (some (.inl (false,a18,a19,a20,a21,a22,()))) else
(dM a9 1).bind λae=>
bif (ae.1 != 1) then (some (.inl (false,a18,a19,a20,a21,a22,()))) else
let af:=dN a15.length;
(match dU mJ NN (x0,a15,af,0,a18,a19,a20,a21,a22,a0,a1,a2,a3,a4,a5,a6,a7,a8,a9,a10,a11,a12,a13,a14,a15,a16,a17,x2,x3,x7.2.2.1,x8.2.2.2,()) with
| none=>none
| some (.inl (ag,ah,ai,aj,ak,am,_))=>
some (.inl (ag,ah,ai,aj,ak,am,()))
| some (.inr (ag,ah,ai,aj,ak,am,an,ap,aq,av,ax,ay,az,aA,aB,aD,aE,aF,aG,aH,aI,aJ,aK,aL,aM,aO,aP,aQ,aR,aS,aT,aU,_))=>
some (.inr (.inl (ag,ah,ai,aj,ak,am,an,ap,aq,av,ax,ay,az,aA,aB,aD,aE,aF,aG,aH,aI,aJ,aK,aL,aM,aO,aP,aQ,aR,aS,aT,aU,()))))) else
some (.inr (.inr (x0,false,a18,a19,a20,a21,a22,a0,a1,a2,a3,a4,a5,a6,a7,a8,a9,a10,a11,a12,a13,a14,a15,a16,a17,x2,x3,())))) else
some (.inr (.inr (x0,false,a18,a19,a20,a21,a22,a0,a1,a2,a3,a4,a5,a6,a7,a8,a9,a10,a11,a12,a13,a14,a15,a16,a17,x2,x3,()))):Option (T1d⊕(T3H⊕(Nat×Bool×T3y)))) with
| none=>none
| some (.inl (x5,x6,x7,x8,x9,ac,_))=>
some (x5,x6,x7,x8,x9,ac,())
| some (.inr (.inl (x5,x6,x7,x8,x9,ac,ae,af,ag,ah,ai,aj,ak,am,an,ap,aq,av,ax,ay,az,aA,aB,aD,aE,aF,aG,aH,aI,aJ,aK,aL,_)))=>
(match (bif (ax==12) then ((dM ay 0).bind λaM=>
let aO:=wk .i64 aM.2.1;
bif decide (aO > 255) then (some (.inl (false,ac,ae,af,ag,ah,()))) else
(dM ay 0).bind λaP=>
bif (aP.1 != 0) then (some (.inl (false,ac,ae,af,ag,ah,()))) else
(dM ay 0).bind λaQ=>
let aR:=wk .i64 aQ.2.1;
(dM ah x5).bind λaS=>
let aT:=(List.modify ah x5 λe=>(e.1,(e.2.1,(e.2.2.1,(e.2.2.2.1,(aR,e.2.2.2.2.2))))));
some (.inr (x5,ac,ae,af,ag,aT,ai,aj,ak,am,an,ap,aq,av,ax,ay,az,aA,aB,aD,aE,aF,aG,aH,aI,aJ,()))) else
some (.inr (x5,ac,ae,af,ag,ah,ai,aj,ak,am,an,ap,aq,av,ax,ay,az,aA,aB,aD,aE,aF,aG,aH,aI,aJ,())):Option (T1d⊕T3A)) with
| none=>none
| some (.inl (aM,aO,aP,aQ,aR,aS,_))=>
some (aM,aO,aP,aQ,aR,aS,())
| some (.inr (aM,aO,aP,aQ,aR,aS,aT,aU,aV,aW,aY,aZ,ba,bc,bd,bf,bg,bh,bi,bj,bk,bl,bm,bn,bo,bp,_))=>
(match (bif (bd==10) then (bif decide (bm>=0) then ((dM bf 1).bind λbq=>
(ii aO aP aU bq.1 bq.2.1 bq.2.2.1 bq.2.2.2).bind λ(bt,bv,bx,_)=>
(bif (bx != 0) then (some (aM,true,aO,aP,aQ,aR,aS,aW,aY,aZ,ba,bc,bd,bf,bg,bh,bi,bj,bk,bl,bm,bn,bo,bp,bt,bv,())) else
(d9 bm).bind λbA=>
(dM aS bA).bind λbB=>
(dM aS bA).bind λbC=>
bif (bC.1 != 0) then (some (aM,true,aO,aP,aQ,aR,aS,aW,aY,aZ,ba,bc,bd,bf,bg,bh,bi,bj,bk,bl,bm,bn,bo,bp,bt,bv,())) else
(dM bf 0).bind λbD=>
let bE:=wk .i64 bD.2.1;
bif decide (bE > 255) then (some (aM,true,aO,aP,aQ,aR,aS,aW,aY,aZ,ba,bc,bd,bf,bg,bh,bi,bj,bk,bl,bm,bn,bo,bp,bt,bv,())) else
(dM bf 0).bind λbF=>
some (aM,(bF.1 != 0),aO,aP,aQ,aR,aS,aW,aY,aZ,ba,bc,bd,bf,bg,bh,bi,bj,bk,bl,bm,bn,bo,bp,bt,bv,()):Option (T3z)).bind λ(bA,bB,bC,bD,bE,bF,bG,bH,bI,bJ,bK,bL,bM,bN,bO,bP,bQ,bR,bS,bT,bU,bV,bW,bY,bZ,b8,_)=>
bif bB then (some (.inl (false,bC,bD,bE,bF,bG,()))) else
(dM bN 0).bind λb9=>
let ca:=wk .i64 b9.2.1;
(ri ca bZ b8).bind λ(cd,cf,cg,ch,ci,cj,cl,cn,_)=>
(d9 bU).bind λcq=>
(dM bG cq).bind λcr=>
(dM bG cq).bind λcu=>
let cw:=(List.modify bG cq λe=>(cd,(cf,(cg,(ch,(ci,(cj,(cl,cn))))))));
some (.inr (bA,bC,bD,bE,bF,cw,bH,bI,bJ,bK,bL,bM,bN,bO,bW,bY,()))) else
some (.inr (aM,aO,aP,aQ,aR,aS,aW,aY,aZ,ba,bc,bd,bf,bg,bo,bp,()))) else
some (.inr (aM,aO,aP,aQ,aR,aS,aW,aY,aZ,ba,bc,bd,bf,bg,bo,bp,())):Option (T1d⊕T3e)) with
| none=>none
| some (.inl (bq,bt,bv,bx,bA,bB,_))=>
some (bq,bt,bv,bx,bA,bB,())
| some (.inr (bq,bt,bv,bx,bA,bB,bC,bD,bE,bF,bG,bH,bI,bJ,bK,bL,_))=>
(dM bB bq).bind λbM=>
(dM bB bq).bind λbN=>
(dM bN.2.1 0).bind λbO=>
(dM bB bq).bind λbP=>
(dM bP.2.1 0).bind λbQ=>
let bR:=(List.modify bB bq λe=>(e.1,((List.modify e.2.1 0 λe=>(bK,bL)),e.2.2)));
(dM bR bq).bind λbS=>
let bT:=List.modify bR bq λe=>(1,e.2);
some (true,bt,bv,bx,bA,bT,())))
| some (.inr (.inr (x5,x6,x7,x8,x9,ac,ae,af,ag,ah,ai,aj,ak,am,an,ap,aq,av,ax,ay,az,aA,aB,aD,aE,aF,aG,_)))=>
(match (bif (ap==12) then ((dM aq 0).bind λaH=>
let aI:=wk .i64 aH.2.1;
bif decide (aI > 255) then (some (.inl (false,x7,x8,x9,ac,ae,()))) else
(dM aq 0).bind λaJ=>
bif (aJ.1 != 0) then (some (.inl (false,x7,x8,x9,ac,ae,()))) else
(dM aq 0).bind λaK=>
let aL:=wk .i64 aK.2.1;
(dM ae x5).bind λaM=>
let aO:=(List.modify ae x5 λe=>(e.1,(e.2.1,(e.2.2.1,(e.2.2.2.1,(aL,e.2.2.2.2.2))))));
some (.inr (x5,x7,x8,x9,ac,aO,af,ag,ah,ai,aj,ak,am,an,ap,aq,av,ax,ay,az,aA,aB,aD,aE,aF,aG,()))) else
some (.inr (x5,x7,x8,x9,ac,ae,af,ag,ah,ai,aj,ak,am,an,ap,aq,av,ax,ay,az,aA,aB,aD,aE,aF,aG,())):Option (T1d⊕T3A)) with
| none=>none
| some (.inl (aH,aI,aJ,aK,aL,aM,_))=>
some (aH,aI,aJ,aK,aL,aM,())
| some (.inr (aH,aI,aJ,aK,aL,aM,aO,aP,aQ,aR,aS,aT,aU,aV,aW,aY,aZ,ba,bc,bd,bf,bg,bh,bi,bj,bk,_))=>
(match (bif (aW==10) then (bif decide (bh>=0) then ((dM aY 1).bind λbl=>
(ii aI aJ aP bl.1 bl.2.1 bl.2.2.1 bl.2.2.2).bind λ(bm,bn,bo,_)=>
(bif (bo != 0) then (some (aH,true,aI,aJ,aK,aL,aM,aR,aS,aT,aU,aV,aW,aY,aZ,ba,bc,bd,bf,bg,bh,bi,bj,bk,bm,bn,())) else
(d9 bh).bind λbp=>
(dM aM bp).bind λbq=>
(dM aM bp).bind λbt=>
bif (bt.1 != 0) then (some (aH,true,aI,aJ,aK,aL,aM,aR,aS,aT,aU,aV,aW,aY,aZ,ba,bc,bd,bf,bg,bh,bi,bj,bk,bm,bn,())) else
(dM aY 0).bind λbv=>
let bx:=wk .i64 bv.2.1;
bif decide (bx > 255) then (some (aH,true,aI,aJ,aK,aL,aM,aR,aS,aT,aU,aV,aW,aY,aZ,ba,bc,bd,bf,bg,bh,bi,bj,bk,bm,bn,())) else
(dM aY 0).bind λbA=>
some (aH,(bA.1 != 0),aI,aJ,aK,aL,aM,aR,aS,aT,aU,aV,aW,aY,aZ,ba,bc,bd,bf,bg,bh,bi,bj,bk,bm,bn,()):Option (T3z)).bind λ(bp,bq,bt,bv,bx,bA,bB,bC,bD,bE,bF,bG,bH,bI,bJ,bK,bL,bM,bN,bO,bP,bQ,bR,bS,bT,bU,_)=>
bif bq then (some (.inl (false,bt,bv,bx,bA,bB,()))) else
(dM bI 0).bind λbV=>
let bW:=wk .i64 bV.2.1;
(ri bW bT bU).bind λ(bY,bZ,b8,b9,ca,cd,cf,cg,_)=>
(d9 bP).bind λch=>
(dM bB ch).bind λci=>
(dM bB ch).bind λcj=>
let cl:=(List.modify bB ch λe=>(bY,(bZ,(b8,(b9,(ca,(cd,(cf,cg))))))));
some (.inr (bp,bt,bv,bx,bA,cl,bC,bD,bE,bF,bG,bH,bI,bJ,bR,bS,()))) else
some (.inr (aH,aI,aJ,aK,aL,aM,aR,aS,aT,aU,aV,aW,aY,aZ,bj,bk,()))) else
some (.inr (aH,aI,aJ,aK,aL,aM,aR,aS,aT,aU,aV,aW,aY,aZ,bj,bk,())):Option (T1d⊕T3e)) with
| none=>none
| some (.inl (bl,bm,bn,bo,bp,bq,_))=>
some (bl,bm,bn,bo,bp,bq,())
| some (.inr (bl,bm,bn,bo,bp,bq,bt,bv,bx,bA,bB,bC,bD,bE,bF,bG,_))=>
(dM bq bl).bind λbH=>
(dM bq bl).bind λbI=>
(dM bI.2.1 0).bind λbJ=>
(dM bq bl).bind λbK=>
(dM bK.2.1 0).bind λbL=>
let bM:=(List.modify bq bl λe=>(e.1,((List.modify e.2.1 0 λe=>(bF,bG)),e.2.2)));
(dM bM bl).bind λbN=>
let bO:=List.modify bM bl λe=>(1,e.2);
some (true,bm,bn,bo,bp,bO,()))))
def IG:X.Cfg:=⟨E0,[rV,kp,kq,kt,tW,rS,BI],[],[⟨13,0,(qS [zaa 1,zaa 4,zaa 6,zaa 7,(9,.ptr ⟨4,4,[((),(8,0))]⟩ [0,0]),zaa 10,zaa 12,sP 80 d8,Uaa 81,Uaa 82] [(4,Zac),(10,uab),(14,uad),(16,Zaf),(22,uac),(26,Uac)]),[(.ret,qS [zaa 1,Xaa 8] [(4,Zac)]),(.exit 0,(qS [zaa 1,zaa 4,zaa 6,zaa 7,(9,.ptr ⟨4,4,[((),(8,0))]⟩ [0,0]),zaa 10,zaa 12,sP 80 d8,Uaa 81,Uaa 82,Xaa 83] [(4,Zac),(10,uab),(14,uad),(16,Zaf),(22,uac),(26,Uac)]))]⟩,⟨6,1,qE,[(.ret,qS [zaa 1,Xaa 8] [(4,Zac)]),(.normal,(qS [zaa 1,zaa 4,zaa 6,zaa 7,(9,.ptr ⟨4,4,[((),(8,0))]⟩ [0,0]),zaa 10,zaa 12,sP 80 d8,Uaa 81,Uaa 82,Xaa 83] [(4,Zac),(10,uab),(14,uad),(16,Zaf),(22,uac),(26,Uac)])),(.normal,(qS [zaa 1,zaa 4,zaa 6,zaa 7,(9,.ptr ⟨4,4,[((),(8,0))]⟩ [0,0]),zaa 10,Xaa 51] [(4,Zac),(10,uab),(14,uad),(16,Zaf),(22,uac)]))]⟩,⟨24,2,qE,[(.ret,qS [zaa 1,Xaa 8] [(4,Zac)]),(.normal,(qS [zaa 1,zaa 4,zaa 6,zaa 7,(9,.ptr ⟨4,4,[((),(8,0))]⟩ [0,0]),zaa 10] [(4,Zac),(10,uab),(14,uad),(16,Zaf),(22,uac)]))]⟩,⟨33,3,qE,[(.normal,(qS [zaa 1,zaa 6,zaa 7,(9,.ptr ⟨4,4,[((),(8,0))]⟩ [0,0]),zaa 10,zaa 19,Xaa 207] [(4,Zac),(14,uad),(16,Zaf),(22,uac),(40,uac)]))]⟩,⟨29,4,qE,[(.ret,qS [zaa 1,Xaa 8] [(4,Zac)]),(.normal,(qS [zaa 1,(9,.ptr ⟨4,4,[((),(8,0))]⟩ [0,0]),zaa 10] [(4,Zac),(14,uad),(22,uac)]))]⟩]⟩
def BF:Ctr:=⟨181,98,[.agg uab,.ptr ⟨4,0,[]⟩ [0],.agg uad,.agg Zaf],[(4,Zac)],[⟨yab,[.one],[(4,Zac)]⟩],ap23 re⟩
theorem Is:Lk 4 BF:=ls IG (aC vk (aC mX (aC mY (aC mZ (aC AW (aC wh (aC Iv aN)))))))
def rf(a0:LDIn) (a1:List (Int)) (a2:List LI) (a3:List (Int)) (a4:Int) (a5:LDCe) (a6:LDLn) (a7:LDTh) (a8:Int) (a9:Int) (a10:Int) (a11:Int) (a12:Int) (a13:Int) (a14:LDCn) (a15:LDCn) (a16:Int) (a17:Int) (a18:Int) (a19:Int) (a20:LDCn) (a21:Int) (a22:Bool):Option (T1s):=
((jT a0 a1 a2 a3 a4 a5 a6 a7).bind λ(x0,_)=>
bif (!x0) then (some (true,a0,a1,a2,a3,a4,a5,a6,a7,a8,a9,a10,a11,a12,a13,a14,a15,a16,a17,a18,a19,a20,a21,a22,(),0,(),(),(),())) else
(lC a8 a9 a10 a11 a12 a13 a14 a15).bind λ(x1,_)=>
bif (!x1) then (some (true,a0,a1,a2,a3,a4,a5,a6,a7,a8,a9,a10,a11,a12,a13,a14,a15,a16,a17,a18,a19,a20,a21,a22,(),0,(),(),(),())) else
bif (a9 != 1) then (some (true,a0,a1,a2,a3,a4,a5,a6,a7,a8,a9,a10,a11,a12,a13,a14,a15,a16,a17,a18,a19,a20,a21,a22,(),0,(),(),(),())) else
let x2:=dN a14.length;
(iE a13).bind λ(x3,_)=>
bif (x2 != x3) then (some (true,a0,a1,a2,a3,a4,a5,a6,a7,a8,a9,a10,a11,a12,a13,a14,a15,a16,a17,a18,a19,a20,a21,a22,(),0,(),(),(),())) else
(lz a16 a17 a18 a19 a20 a21 a22).bind λ(x4,_)=>
bif (!x4) then (some (true,a0,a1,a2,a3,a4,a5,a6,a7,a8,a9,a10,a11,a12,a13,a14,a15,a16,a17,a18,a19,a20,a21,a22,(),0,(),(),(),())) else
(d9 a8).bind λx5=>
(dM a7 x5).bind λx6=>
some ((x6.1 != 2),a0,a1,a2,a3,a4,a5,a6,a7,a8,a9,a10,a11,a12,a13,a14,a15,a16,a17,a18,a19,a20,a21,a22,(),0,(),(),(),()):Option (Bool×LDIn×LI×LLI×LI×Int×LDCe×LDLn×LDTh×Int×Int×Int×Int×Int×Int×LDCn×LDCn×T2S)).bind λ(x0,x1,x2,x3,x4,x5,x6,x7,x8,x9,ac,ae,af,ag,ah,ai,aj,ak,am,an,ap,aq,av,ax,_)=>
bif x0 then (some (x4,x5,x6,x7,x8,false,())) else
(jA x4 x5 x6 x7 x8).bind λ(aE,aF,aG,aH,aI,_)=>
bif (ah==0) then ((d9 x9).bind λaJ=>
(dM aI aJ).bind λaK=>
(dM aI aJ).bind λaL=>
(dM ai 0).bind λaM=>
(dM aI aJ).bind λaO=>
(oG aL.1 aO.2.1 aL.2.2.1 aL.2.2.2.1 aL.2.2.2.2.1 aL.2.2.2.2.2.1 aL.2.2.2.2.2.2.1 aL.2.2.2.2.2.2.2 0 aM.2.1).bind λ(aP,aQ,aR,aS,aT,aU,aV,aW,_)=>
(d9 x9).bind λaY=>
(dM aI aY).bind λaZ=>
(dM aI aY).bind λba=>
let bc:=(List.modify aI aY λe=>(aP,(aQ,(aR,(aS,(aT,(aU,(aV,aW))))))));
some (aE,aF,aG,aH,bc,true,())) else
bif ax then ((d9 x9).bind λaJ=>
(dM aI aJ).bind λaK=>
(dM aI aJ).bind λaL=>
let aM:=List.modify aI aJ λe=>(3,e.2);
some (aE,aF,aG,aH,aM,true,())) else
(re x1 x2 x3 x9 ac ae af ag ah ai aj ak am an ap aq av ax aE aF aG aH aI).bind λ(aJ,aK,aL,aM,aO,aP,_)=>
bif (!aJ) then (some (x4,x5,x6,x7,x8,false,())) else
some (aK,aL,aM,aO,aP,true,())
def IH:X.Cfg:=⟨E0,[oh,rR,mC,rN,nu,vz,BF],[],[⟨2,0,qE,[(.normal,qS [zaa 4,zaa 5,zaa 6,zaa 7,zaa 8,Xaa 48] [(10,uab),(12,zac),(14,uad),(16,Zaf),(18,yac)])]⟩]⟩
def BG:Ctr:=⟨165,99,[.agg uab,.agg zac,.agg uad,.agg Zaf],[],[⟨yal,[.agg 5,.one],[]⟩],ap23 rf⟩
theorem It:Lk 5 BG:=ls IH (aC rA (aC wg (aC qI (aC vW (aC pS (aC AT (aC Is aN)))))))
def nc(a0:LDIn) (a1:List (Int)) (a2:List LI) (a3:List (Int)) (a4:Int) (a5:LDCe) (a6:LDLn) (a7:LDTh) (a8:Int) (a9:Int) (a10:Int) (a11:Int) (a12:Int) (a13:LDCn) (a14:Int) (a15:Bool):Option (T1s):=
((jT a0 a1 a2 a3 a4 a5 a6 a7).bind λ(x0,_)=>
bif (!x0) then (some (a8,true,a0,a1,a2,a3,a4,a5,a6,a7,a9,a10,a11,a12,a13,a14,a15,(),0,(),(),(),())) else
(lz a9 a10 a11 a12 a13 a14 a15).bind λ(x1,_)=>
bif (!x1) then (some (a8,true,a0,a1,a2,a3,a4,a5,a6,a7,a9,a10,a11,a12,a13,a14,a15,(),0,(),(),(),())) else
bif decide (a8 < 0) then (some (a8,true,a0,a1,a2,a3,a4,a5,a6,a7,a9,a10,a11,a12,a13,a14,a15,(),0,(),(),(),())) else
bif decide (a8>=4) then (some (a8,true,a0,a1,a2,a3,a4,a5,a6,a7,a9,a10,a11,a12,a13,a14,a15,(),0,(),(),(),())) else
(d9 a8).bind λx2=>
(dM a7 x2).bind λx3=>
some (a8,(x3.1 != 3),a0,a1,a2,a3,a4,a5,a6,a7,a9,a10,a11,a12,a13,a14,a15,(),0,(),(),(),()):Option (Int×Bool×LDIn×LI×LLI×LI×Int×LDCe×LDLn×LDTh×T2S)).bind λ(x0,x1,x2,x3,x4,x5,x6,x7,x8,x9,ac,ae,af,ag,_)=>
bif x1 then (some (x5,x6,x7,x8,x9,false,())) else
(ii x5 x6 x3 ac ae af ag).bind λ(av,ax,ay,_)=>
bif (ay != 0) then (some (x5,x6,x7,x8,x9,false,())) else
(jA x5 x6 x7 x8 x9).bind λ(az,aA,aB,aD,aE,_)=>
(d9 x0).bind λaF=>
(dM aE aF).bind λaG=>
(dM aE aF).bind λaH=>
(dM aE aF).bind λaI=>
(dM aI.2.1 0).bind λaJ=>
(dM aE aF).bind λaK=>
(dM aK.2.1 0).bind λaL=>
let aM:=(List.modify aE aF λe=>(e.1,((List.modify e.2.1 0 λe=>(av,ax)),e.2.2)));
(d9 x0).bind λaO=>
(dM aM aO).bind λaP=>
(dM aM aO).bind λaQ=>
let aR:=List.modify aM aO λe=>(1,e.2);
some (az,aA,aB,aD,aR,true,())
def GN:X.Cfg:=⟨E0,[oh,rN,rV,nu],[],[⟨2,0,qE,[(.normal,qS [Uaa 2,zaa 4,zaa 5,zaa 7,zaa 8,Xaa 38] [(10,uab),(12,zac),(16,Zaf),(18,yac)])]⟩]⟩
def tN:Ctr:=⟨182,100,[.agg uab,.agg zac,shU I64,.agg Zaf],[],[⟨yal,[.agg 5,.one],[]⟩],ap16 nc⟩
theorem yA:Lk 5 tN:=ls GN (aC rA (aC vW (aC vk (aC pS aN))))
def pq(a0:Int) (a1:Int) (a2:LDIn) (a3:List (Int)) (a4:List LI) (a5:List (Int)) (a6:Int) (a7:LDCe) (a8:LDLn) (a9:LDTh) (a10:List (Int)) (a11:List (Int)) (a12:List LI) (a13:List LDCn) (a14:LDOp) (a15:LDOu) (a16:List (Int)) (a17:List LI) (a18:LDEn) (a19:List (Int)):Option (T3j):=
let x0:=wk .i64 a1;
(ek x0 true).bind λ(x1,x2,x3,x4,x5,x6,x7,_)=>
(nc a2 a3 a4 a5 a6 a7 a8 a9 a0 x1 x2 x3 x4 [] x6 x7).bind λ(x8,x9,ac,ae,af,ag,_)=>
let ah:LDEn:=[(4,(a0,(0,(0,(0,(0,(0,(0,(0,([],([],(x1,(x2,(x3,(x4,([],(x6,x7)))))))))))))))))];
bif (dY 184 a18.length ah.length) then let ai:LDEn:=(List.append a18 ah);
some (a2,a3,a4,x8,x9,ac,ae,af,a10,a11,a12,a13,a14,a15,a16,a17,ai,a19,()) else none
def Gy:X.Cfg:=⟨E0,[l7,tN],[(35,Ob),(36,Ob)],[]⟩
def yP:Ctr:=⟨166,101,[.ptr ⟨2,0,[]⟩ [0],shU I64,shU CW],[(2,yad)],[⟨[],[],[(2,yad)]⟩],ap20 pq⟩
theorem F5:Lk 6 yP:=ls Gy (aC n9 (aC yA aN))
def kg(a0:Int) (a1:Int) (a2:Int) (a3:Int) (a4:Int) (a5:Int) (a6:LDCn) (a7:LDCn) (a8:LDIn) (a9:List (Int)) (a10:List LI) (a11:List (Int)) (a12:Int) (a13:LDCe) (a14:LDLn) (a15:LDTh) (a16:List (Int)) (a17:List (Int)) (a18:List LI) (a19:List LDCn) (a20:LDOp) (a21:LDOu) (a22:List (Int)) (a23:List LI) (a24:LDEn) (a25:List (Int)):Option (T3j):=
(bif (a5==9) then ((dM a6 0).bind λx0=>
let x1:=wk .i64 x0.2.1;
(kW a22 a23 x1 a0).bind λ(x2,x3,x4,x5,_)=>
some (x4,a8,a9,a10,a11,a12,a13,a14,a15,a16,a17,a18,a19,a20,a21,a22,a23,a24,a25,a0,a1,a2,a3,a4,a5,a6,a7,())) else
some ((-1),a8,a9,a10,a11,a12,a13,a14,a15,a16,a17,a18,a19,a20,a21,a22,a23,a24,a25,a0,a1,a2,a3,a4,a5,a6,a7,()):Option (Int×LDIn×LI×LLI×LI×Int×LDCe×LDLn×LDTh×LI×LI×LLI×LLCn×LDOp×LDOu×LI×LLI×LDEn×LI×T1Y)).bind λ(x0,x1,x2,x3,x4,x5,x6,x7,x8,x9,ac,ae,af,ag,ah,ai,aj,ak,am,an,ap,aq,av,ax,ay,az,aA,_)=>
(lp an ap aq av ax ay az aA x1 x2 x3 x4 x5 x6 x7 x8 x9 ac ae af ag ah ai aj ak am).bind λ(aB,aD,aE,aF,aG,aH,aI,aJ,aK,aL,aM,aO,aP,aQ,aR,aS,aT,aU,aV,aW,aY,aZ,ba,bc,bd,_)=>
(rf aJ aK aL aM aO aP aQ aR an ap aq av ax ay az aA aB aD aE aF aG aH aI).bind λ(bf,bg,bh,bi,bj,bk,_)=>
let bl:LDEn:=[(2,(an,(0,(an,(ap,(aq,(av,(ax,(ay,(az,(aA,(aB,(aD,(aE,(aF,(aG,(aH,aI)))))))))))))))))];
bif (dY 184 bc.length bl.length) then let bm:LDEn:=(List.append bc bl);
bif decide (x0>=0) then ((pq x0 0 aJ aK aL bf bg bh bi bj aS aT aU aV aW aY aZ ba bm bd).bind λ(bn)=>
some (bn)) else
some (aJ,aK,aL,bf,bg,bh,bi,bj,aS,aT,aU,aV,aW,aY,aZ,ba,bm,bd,()) else none
def Cp:X.Cfg:=⟨E0,[pX,tH,BG,yP],[(56,Ob),(57,Ob)],[⟨2,0,qE,[(.normal,qS [zaa 0,zaa 3,Uaa 4] [(2,yad),(8,uad)])]⟩]⟩
def uT:Ctr:=⟨131,102,[.ptr ⟨2,0,[]⟩ [0],.agg uad],[(2,yad)],[⟨[],[],[(2,yad)]⟩],ap26 kg⟩
theorem B8:Lk 7 uT:=ls Cp (aC tk (aC AO (aC It (aC F5 aN))))
def sV:T2T->Option (T2T⊕(Int×Int×Int×Int×Nat×T1V)):=λ(v0,v1,v2,v3,v4,v5,v6,v7,v8,v9,v10,v11,_)=>
bif decide (v6 < v5) then (((d9 v6).bind λx0=>
(dM v10 v4).bind λx1=>
(dM x1 x0).bind λx2=>
(dM v10 v4).bind λx3=>
(dM x3 x0).bind λx4=>
bif (x4 != v0) then (bif (dY 8 v11.length (List.length [x4])) then let x5:List (Int):=(List.append v11 [x4]);
some (v0,v1,v2,v3,v4,v5,v6,v7,v8,v9,v10,x5,()) else none) else
some (v0,v1,v2,v3,v4,v5,v6,v7,v8,v9,v10,v11,()):Option (T2T)).bind λ(x0,x1,x2,x3,x4,x5,x6,x7)=>
let af:=w64 (x6+1);
some (.inl (x0,x1,x2,x3,x4,x5,af,x7))) else
some (.inr (v0,v1,v2,v3,v4,v5,v6,false,v7,v8,v9,v10,v11,()))
def sU:T1G->Option (T1G⊕(Int×T1C)):=λ(v0,v1,v2,v3,v4,v5,v6,_)=>
bif decide (v2 < v1) then ((d9 v2).bind λx0=>
(dM v6 x0).bind λx1=>
(dM v6 x0).bind λx2=>
(dM v6 x0).bind λx3=>
let x4:=dN x3.length;
(dU sV NN (v0,v2,v1,v2,x0,x4,0,v3,v4,v5,v6,[],())).bind λ(x5,x6,x7,x8,x9,ac,ae,af,ag,ah,ai,aj,ak,_)=>
(d9 x6).bind λam=>
(dM aj am).bind λan=>
(dM aj am).bind λap=>
let aq:=List.modify aj am λe=>ak;
let av:=w64 (x8+1);
some (.inl (x5,x7,av,ag,ah,ai,aq,()))) else
some (.inr (v0,v1,v2,false,v3,v4,v5,v6,()))
def sT:T20->Option (T20⊕(Int×T1V)):=λ(v0,v1,v2,v3,v4,v5,v6,v7,_)=>
bif decide (v2 < v1) then ((kW v5 v6 v2 v0).bind λ(x0,x1,x2,x3,_)=>
(bif x3 then (bif decide (x2>=0) then (bif (dY 8 v7.length (List.length [x2])) then let x4:List (Int):=(List.append v7 [x2]);
some (v0,v1,v2,v3,v4,v5,v6,x4,x0,x1,()) else none) else
some (v0,v1,v2,v3,v4,v5,v6,v7,x0,x1,())) else
some (v0,v1,v2,v3,v4,v5,v6,v7,x0,x1,()):Option (Int×Int×Int×Unit×Unit×LI×LLI×LI×T09)).bind λ(x4,x5,x6,x7,x8,x9,ac,ae,af,ag,_)=>
let ah:=w64 (x6+1);
some (.inl (x4,x5,ah,x7,x8,af,ag,ae,()))) else
some (.inr (v0,v1,v2,false,v3,v4,v5,v6,v7,()))
def pC(a0:List (Int)) (a1:List LI) (a2:Int):Option (T0q):=
(nb a0 a1).bind λ(x0,x1,_)=>
let x2:=dN x1.length;
(dU sU NN (a2,x2,0,(),(),x0,x1,())).bind λ(x3,x4,x5,x6,x7,x8,x9,ac,_)=>
let ae:=dN x9.length;
(dU sT NN (x3,ae,0,x7,x8,x9,ac,[],())).bind λ(af,ag,ah,ai,aj,ak,am)=>
some (am)
def GL:X.Cfg:=⟨E0,[pY,pX],[],[⟨15,0,qE,[(.normal,(qS [Uaa 1,zaa 4,zaa 6,Uaa 7,Zaa 9 21,(20,.pk ⟨14,1,[]⟩ [0,0]),Uaa 21,Uaa 22,(27,.pk ⟨14,1,[((),(1,0))]⟩ [0,0,0]),Uaa 28,Uaa 29] [(10,Zab),(14,Zae),(21,zae)]))]⟩,⟨12,1,(qS [Uaa 1,zaa 4,zaa 6,Uaa 7,Zaa 9 21,(20,.pk ⟨14,1,[]⟩ [0,0]),Uaa 21,Uaa 22,(27,.pk ⟨14,1,[((),(1,0))]⟩ [0,0,0]),Uaa 28,Uaa 29] [(10,Zab),(14,Zae),(21,zae)]),[(.exit 2,(qS [Uaa 1,zaa 4,zaa 6,Uaa 7,Zaa 9 21,(20,.pk ⟨14,1,[]⟩ [0,0]),Uaa 21,Uaa 22,(27,.pk ⟨14,1,[((),(1,0))]⟩ [0,0,0]),Uaa 28,Uaa 29,Xaa 30] [(10,Zab),(14,Zae),(21,zae)]))]⟩,(lx 4 2 [Uaa 1,zaa 4,zaa 6,(20,.pk ⟨14,1,[]⟩ [0,0]),Uaa 21,Uaa 22] [(10,Zab),(14,Zae)] 23),⟨27,3,qE,[(.normal,qS [Uaa 1,zaa 4,zaa 6,Zaa 12 27,zaa 14,Uaa 49,Uaa 50] [(10,Zab),(14,zaf),(27,zae),(30,zaf)])]⟩,⟨21,4,qS [Uaa 1,zaa 4,zaa 6,Zaa 12 27,Uaa 49,Uaa 50] [(10,Zab),(14,zaf),(27,zae)],[(.exit 4,qS [Uaa 1,zaa 4,zaa 6,Zaa 12 27,Uaa 49,Uaa 50,Xaa 51] [(10,Zab),(14,zaf),(27,zae)])]⟩]⟩
def yX:Ctr:=⟨167,103,[.agg zaf,shU I64],[],[⟨uL [RI,(yaa RI),(uaa I64)],[.agg 2,.one],[]⟩],ap3 pC⟩
theorem Ge:Lk 3 yX:=ls GL (aC tn (aC tk aN))
def kf(a0:Int) (a1:Int) (a2:LDIn) (a3:List (Int)) (a4:List LI) (a5:List (Int)) (a6:Int) (a7:LDCe) (a8:LDLn) (a9:LDTh) (a10:List (Int)) (a11:List (Int)) (a12:List LI) (a13:List LDCn) (a14:LDOp) (a15:LDOu) (a16:List (Int)) (a17:List LI) (a18:LDEn):Option (LDIn×LI×LLI×LI×Int×LDCe×LDLn×LDTh×LI×LI×LLI×LLCn×LDOp×LDOu×LI×LLI×LDEn×Unit):=
let x0:=wk .i64 a1;
(ek x0 true).bind λ(x1,x2,x3,x4,x5,x6,x7,_)=>
(nc a2 a3 a4 a5 a6 a7 a8 a9 a0 x1 x2 x3 x4 [] x6 x7).bind λ(x8,x9,ac,ae,af,ag,_)=>
let ah:LDEn:=[(4,(a0,(0,(0,(0,(0,(0,(0,(0,([],([],(x1,(x2,(x3,(x4,([],(x6,x7)))))))))))))))))];
bif (dY 184 a18.length ah.length) then let ai:LDEn:=(List.append a18 ah);
some (a2,a3,a4,x8,x9,ac,ae,af,a10,a11,a12,a13,a14,a15,a16,a17,ai,()) else none
def Cm:X.Cfg:=⟨E0,[l7,tN],[(35,Ob),(36,Ob)],[]⟩
def uQ:Ctr:=⟨166,104,[.ptr ⟨2,0,[]⟩ [0],shU I64,shU CW],[(2,zal)],[⟨[],[],[(2,zal)]⟩],ap19 kf⟩
theorem B5:Lk 6 uQ:=ls Cm (aC n9 (aC yA aN))
def se:T3v->Option (T3v⊕(Int×Int×Int×Bool×T3n)):=λ(v0,v1,v2,v3,v4,v5,v6,v7,v8,v9,v10,v11,v12,v13,v14,v15,v16,v17,v18,v19,v20,v21,_)=>
bif decide (v2 < v1) then ((d9 v2).bind λx0=>
(dM v21 x0).bind λx1=>
(dM v21 x0).bind λx2=>
(kf x2 0 v3 v4 v5 v6 v7 v8 v9 v10 v11 v12 v13 v14 v15 v16 v17 v18 v19).bind λ(x3,x4,x5,x6,x7,x8,x9,ac,ae,af,ag,ah,ai,aj,ak,am,an,_)=>
let ap:=w64 (v2+1);
some (.inl (v0,v1,ap,x3,x4,x5,x6,x7,x8,x9,ac,ae,af,ag,ah,ai,aj,ak,am,an,v20,v21,()))) else
some (.inr (v0,v1,v2,false,v3,v4,v5,v6,v7,v8,v9,v10,v11,v12,v13,v14,v15,v16,v17,v18,v19,v20,v21,()))
def sd:T3u->Option (T3u⊕(Int×Int×T3p)):=λ(v0,v1,v2,v3,v4,v5,v6,v7,v8,v9,v10,v11,v12,v13,v14,v15,v16,v17,v18,v19,v20,_)=>
bif decide (v2 < v1) then (((d9 v2).bind λx0=>
(dM v20 x0).bind λx1=>
(dM v20 x0).bind λx2=>
bif (x2==v0) then ((d9 v0).bind λx3=>
(dM v10 x3).bind λx4=>
(kf v2 x4.2.2.2.2.2.2.2 v3 v4 v5 v6 v7 v8 v9 v10 v11 v12 v13 v14 v15 v16 v17 v18 v19).bind λ(x5,x6,x7,x8,x9,ac,ae,af,ag,ah,ai,aj,ak,am,an,ap,aq,_)=>
(d9 v2).bind λav=>
(dM v20 av).bind λax=>
(dM v20 av).bind λay=>
let az:=List.modify v20 av λe=>(-1);
some (v0,v1,v2,x5,x6,x7,x8,x9,ac,ae,af,ag,ah,ai,aj,ak,am,an,ap,aq,az,())) else
some (v0,v1,v2,v3,v4,v5,v6,v7,v8,v9,v10,v11,v12,v13,v14,v15,v16,v17,v18,v19,v20,()):Option (T3u)).bind λ(x0,x1,x2,x3,x4,x5,x6,x7,x8,x9,ac,ae,af,ag,ah,ai,aj,ak,am,an,ap,_)=>
let aq:=w64 (x2+1);
some (.inl (x0,x1,aq,x3,x4,x5,x6,x7,x8,x9,ac,ae,af,ag,ah,ai,aj,ak,am,an,ap,()))) else
some (.inr (v0,v1,v2,false,v3,v4,v5,v6,v7,v8,v9,v10,v11,v12,v13,v14,v15,v16,v17,v18,v19,v20,()))
def lq(a0:Int) (a1:LDIn) (a2:List (Int)) (a3:List LI) (a4:List (Int)) (a5:Int) (a6:LDCe) (a7:LDLn) (a8:LDTh) (a9:List (Int)) (a10:List (Int)) (a11:List LI) (a12:List LDCn) (a13:LDOp) (a14:LDOu) (a15:List (Int)) (a16:List LI) (a17:LDEn) (a18:List (Int)):Option (T3j):=
(pC a15 a16 a0).bind λ(x0,x1,x2,_)=>
let x3:=dN x2.length;
(dU se NN (a0,x3,0,a1,a2,a3,a4,a5,a6,a7,a8,a9,a10,a11,a12,a13,a14,x0,x1,a17,a18,x2,())).bind λ(x4,x5,x6,x7,x8,x9,ac,ae,af,ag,ah,ai,aj,ak,am,an,ap,aq,av,ax,ay,az,aA,_)=>
let aB:=dN az.length;
(dU sd NN (x4,aB,0,x8,x9,ac,ae,af,ag,ah,ai,aj,ak,am,an,ap,aq,av,ax,ay,az,())).bind λ(aD,aE,aF,aG,aH)=>
some (aH)
def Er:X.Cfg:=⟨E0,[yX,uQ],[],[(lx 4 0 [zaa 0,Uaa 1,Zaa 23 13,Uaa 24,Uaa 25] [(2,yad),(13,zae)] 26),⟨13,1,qE,[(.normal,(qS [zaa 0,Uaa 1,(36,.pk ⟨2,17,[]⟩ [0,0]),Uaa 37,Uaa 38] [(2,yad)]))]⟩,⟨10,2,(qS [zaa 0,Uaa 1,(36,.pk ⟨2,17,[]⟩ [0,0]),Uaa 37,Uaa 38] [(2,yad)]),[(.exit 2,(qS [zaa 0,Uaa 1,(36,.pk ⟨2,17,[]⟩ [0,0]),Uaa 37,Uaa 38,Xaa 39] [(2,yad)]))]⟩]⟩
def wL:Ctr:=⟨132,105,[.ptr ⟨2,0,[]⟩ [0],shU I64],[(2,yad)],[⟨[],[],[(2,yad)]⟩],ap19 lq⟩
theorem D0:Lk 7 wL:=ls Er (aC Ge (aC B5 aN))
def pt(a0:LDIn) (a1:List (Int)) (a2:List LI) (a3:List (Int)) (a4:Int) (a5:LDCe) (a6:LDLn) (a7:LDTh) (a8:List (Int)) (a9:List (Int)) (a10:List LI) (a11:List LDCn) (a12:LDOp) (a13:LDOu) (a14:List (Int)) (a15:List LI) (a16:LDEn) (a17:List (Int)) (a18:Int) (a19:Int) (a20:Bool):Option (LDIn×LI×LLI×LI×Int×LDCe×LDLn×LDTh×LI×LI×LLI×LLCn×LDOp×LDOu×LI×LLI×LDEn×T08):=
(nS a7).bind λ(x0,_)=>
let x1:=dN x0.length;
bif (x1==0) then (some ([],[],[],[],0,[],[],[],[],[],[],[],[],[],[],[],[],[],15,())) else
let x2:=dN a16.length;
bif decide (x2 > 192) then (some ([],[],[],[],0,[],[],[],[],[],[],[],[],[],[],[],[],[],3,())) else
let x3:=dN x0.length;
(i3 a18 x3).bind λ(x4,_)=>
(d9 x4).bind λx5=>
(dM x0 x5).bind λx6=>
(dM x0 x5).bind λx7=>
(i3 a19 64).bind λ(x8,_)=>
let x9:=w64 (1+x8);
(mI a0 a1 a2 a3 a4 a5 a6 a7 a8 a9 a10 a11 a12 a13 a14 a15 a16 a17).bind λ(ac,ae,af,ag,ah,ai,aj,ak,am,an,ap,aq,av,ax,ay,az,aA,aB,_)=>
(match (bif a20 then ((oC ag ah ai aj ak x7).bind λ(aD,_)=>
bif aD then ((ly ag ah ai aj ak x7).bind λ(aE,aF,aG,aH,aI,aJ,_)=>
let aK:LDEn:=[(3,(x7,(0,(0,(0,(0,(0,(0,(0,([],([],(0,(0,(0,(0,([],(0,false)))))))))))))))))];
bif (dY 184 aA.length aK.length) then let aL:LDEn:=(List.append aA aK);
some (.inl (x7,x9,(),(),(),(),0,(),(),(),(),(),(),(),(),(),(),(),(),(),ac,ae,af,aE,aF,aG,aH,aI,am,an,ap,aq,av,ax,ay,az,aL,aB,())) else none) else
some (.inr (x7,x9,(),(),(),(),0,(),(),(),(),(),(),(),(),(),(),(),(),(),ac,ae,af,ag,ah,ai,aj,ak,am,an,ap,aq,av,ax,ay,az,aA,aB,()))) else
some (.inr (x7,x9,(),(),(),(),0,(),(),(),(),(),(),(),(),(),(),(),(),(),ac,ae,af,ag,ah,ai,aj,ak,am,an,ap,aq,av,ax,ay,az,aA,aB,())):Option (T3Z⊕T3Z)) with
| none=>none
| some (.inl (aD,aE,aF,aG,aH,aI,aJ,aK,aL,aM,aO,aP,aQ,aR,aS,aT,aU,aV,aW,aY,aZ,ba,bc,bd,bf,bg,bh,bi,bj,bk,bl,bm,bn,bo,bp,bq,bt,bv,_))=>
(ng aZ ba bc bd bf bg bh bi aD aE).bind λ(bx,bA,bB,bC,bD,bE,bF,bG,bH,bI,bJ,bK,bL,bM,_)=>
let bN:LDEn:=[(1,(aD,(aE,(bE,(bF,(bG,(bH,(bI,(bJ,(bK,(bL,(0,(0,(0,(0,([],(0,false)))))))))))))))))];
bif (dY 184 bt.length bN.length) then let bO:LDEn:=(List.append bt bN);
(bif (bF==1) then ((kg bE bF bG bH bI bJ bK bL aZ ba bc bx bA bB bC bD bj bk bl bm bn bo bp bq bO bv).bind λ(bP,bQ,bR,bS,bT,bU,bV,bW,bY,bZ,b8,b9,ca,cd,cf,cg,ch,ci,_)=>
some (aD,aF,aG,aH,aI,aJ,aK,aL,aM,aO,aP,aQ,aR,aS,aT,aU,aV,aW,aY,bP,bQ,bR,bS,bT,bU,bV,bW,bY,bZ,b8,b9,ca,cd,cf,cg,ch,ci,())) else
some (aD,aF,aG,aH,aI,aJ,aK,aL,aM,aO,aP,aQ,aR,aS,aT,aU,aV,aW,aY,aZ,ba,bc,bx,bA,bB,bC,bD,bj,bk,bl,bm,bn,bo,bp,bq,bO,bv,()):Option (T3S)).bind λ(bP,bQ,bR,bS,bT,bU,bV,bW,bY,bZ,b8,b9,ca,cd,cf,cg,ch,ci,cj,cl,cn,cq,cr,cu,cw,cx,cy,cz,cD,cE,cF,cG,cH,cI,cJ,cK,cL,_)=>
((d9 bP).bind λcM=>
(dM cy cM).bind λcN=>
bif (cN.1==4) then ((lq bP cl cn cq cr cu cw cx cy cz cD cE cF cG cH cI cJ cK cL).bind λ(cO,cP,cQ,cR,cS,cT,cU,cV,cW,cX,cY,cZ,dc,de,df,dg,dh,dk,_)=>
some (bQ,bR,bS,bT,bU,bV,bW,bY,bZ,b8,b9,ca,cd,cf,cg,ch,ci,cj,cO,cP,cQ,cR,cS,cT,cU,cV,cW,cX,cY,cZ,dc,de,df,dg,dh,dk,())) else
some (bQ,bR,bS,bT,bU,bV,bW,bY,bZ,b8,b9,ca,cd,cf,cg,ch,ci,cj,cl,cn,cq,cr,cu,cw,cx,cy,cz,cD,cE,cF,cG,cH,cI,cJ,cK,cL,()):Option (T3P)).bind λ(cM,cN,cO,cP,cQ,cR,cS,cT,cU,cV,cW,cX,cY,cZ,dc,de,df,dg,dh,dk,dl,dm,dn,dp,dq,dx,dy,dz,dA,dB,dC,dD,dE,dF,dG,dH,_)=>
some (dh,dk,dl,dm,dn,dp,dq,dx,dy,dz,dA,dB,dC,dD,dE,dF,dG,dH,0,()) else none
| some (.inr (aD,aE,aF,aG,aH,aI,aJ,aK,aL,aM,aO,aP,aQ,aR,aS,aT,aU,aV,aW,aY,aZ,ba,bc,bd,bf,bg,bh,bi,bj,bk,bl,bm,bn,bo,bp,bq,bt,bv,_))=>
(ng aZ ba bc bd bf bg bh bi aD aE).bind λ(bx,bA,bB,bC,bD,bE,bF,bG,bH,bI,bJ,bK,bL,bM,_)=>
let bN:LDEn:=[(1,(aD,(aE,(bE,(bF,(bG,(bH,(bI,(bJ,(bK,(bL,(0,(0,(0,(0,([],(0,false)))))))))))))))))];
bif (dY 184 bt.length bN.length) then let bO:LDEn:=(List.append bt bN);
(bif (bF==1) then ((kg bE bF bG bH bI bJ bK bL aZ ba bc bx bA bB bC bD bj bk bl bm bn bo bp bq bO bv).bind λ(bP,bQ,bR,bS,bT,bU,bV,bW,bY,bZ,b8,b9,ca,cd,cf,cg,ch,ci,_)=>
some (aD,aF,aG,aH,aI,aJ,aK,aL,aM,aO,aP,aQ,aR,aS,aT,aU,aV,aW,aY,bP,bQ,bR,bS,bT,bU,bV,bW,bY,bZ,b8,b9,ca,cd,cf,cg,ch,ci,())) else
some (aD,aF,aG,aH,aI,aJ,aK,aL,aM,aO,aP,aQ,aR,aS,aT,aU,aV,aW,aY,aZ,ba,bc,bx,bA,bB,bC,bD,bj,bk,bl,bm,bn,bo,bp,bq,bO,bv,()):Option (T3S)).bind λ(bP,bQ,bR,bS,bT,bU,bV,bW,bY,bZ,b8,b9,ca,cd,cf,cg,ch,ci,cj,cl,cn,cq,cr,cu,cw,cx,cy,cz,cD,cE,cF,cG,cH,cI,cJ,cK,cL,_)=>
((d9 bP).bind λcM=>
(dM cy cM).bind λcN=>
bif (cN.1==4) then ((lq bP cl cn cq cr cu cw cx cy cz cD cE cF cG cH cI cJ cK cL).bind λ(cO,cP,cQ,cR,cS,cT,cU,cV,cW,cX,cY,cZ,dc,de,df,dg,dh,dk,_)=>
some (bQ,bR,bS,bT,bU,bV,bW,bY,bZ,b8,b9,ca,cd,cf,cg,ch,ci,cj,cO,cP,cQ,cR,cS,cT,cU,cV,cW,cX,cY,cZ,dc,de,df,dg,dh,dk,())) else
some (bQ,bR,bS,bT,bU,bV,bW,bY,bZ,b8,b9,ca,cd,cf,cg,ch,ci,cj,cl,cn,cq,cr,cu,cw,cx,cy,cz,cD,cE,cF,cG,cH,cI,cJ,cK,cL,()):Option (T3P)).bind λ(cM,cN,cO,cP,cQ,cR,cS,cT,cU,cV,cW,cX,cY,cZ,dc,de,df,dg,dh,dk,dl,dm,dn,dp,dq,dx,dy,dz,dA,dB,dC,dD,dE,dF,dG,dH,_)=>
some (dh,dk,dl,dm,dn,dp,dq,dx,dy,dz,dA,dB,dC,dD,dE,dF,dG,dH,0,()) else none)
def Gz:X.Cfg:=⟨E0,[wU,vA,uS,vy,tM,y9,uT,wL],[(60,Ob),(61,Ob),(82,Ob),(83,Ob)],[⟨11,0,qE,[(.normal,(qS [zaa 4,Uaa 7,Uaa 8,zaa 9] [(10,yah),(20,uL [fk,RI,(yaa RW),RI,CW,(uaa KCe),li,sJ,RW,RW,(yaa RW),(yaa d8),iP,ke,RI,(yaa RI),(uaa vC),(uaa I64)])])),(.normal,qS [zaa 4,Uaa 7,Uaa 8,zaa 9] [(10,yah),(20,yad)])]⟩,⟨17,1,qE,[(.normal,qS [zaa 4,Uaa 7,zaa 9] [(10,yah),(20,yad)])]⟩,⟨19,2,qE,[(.normal,qS [zaa 4,zaa 9] [(10,yah),(20,yad)])]⟩]⟩
def yQ:Ctr:=⟨77,106,[.agg yaf,.agg uai],[],[⟨uL [fk,RI,(yaa RW),RI,CW,fi,fT,gH,RW,RW,(yaa RW),(yaa d8),iP,ke,RI,(yaa RI),(uaa vC),(uaa I64),I64],[.agg 18,.one],[]⟩],ap21 pt⟩
theorem F6:Lk 8 yQ:=ls Gz (aC D9 (aC AX (aC B7 (aC AS (aC AR (aC Gj (aC B8 (aC D0 aN))))))))
def rp:T43->Option (T43⊕((Int×Bool×LI×Int×Unit×Unit×Unit×Unit×Int×Unit×Unit×Unit×Unit×Unit×Unit×Unit×Unit×Unit×Unit×Unit×Unit×Unit×LDIn×LI×LLI×LI×Int×LDCe×LDLn×LDTh×LI×LI×LLI×LLCn×LDOp×LDOu×LI×LLI×LDEn×LI×T3j)⊕(Int×Bool×T40))):=λ(v0,v1,v2,v3,v4,v5,v6,v7,v8,v9,v10,v11,v12,v13,v14,v15,v16,v17,v18,v19,v20,v21,v22,v23,v24,v25,v26,v27,v28,v29,v30,v31,v32,v33,v34,v35,v36,v37,v38,_)=>
bif decide (v0 > 0) then ((n6 v1 v2).bind λ(x0,x1,x2,x3,x4,_)=>
(pt v21 v22 v23 v24 v25 v26 v27 v28 v29 v30 v31 v32 v33 v34 v35 v36 v37 v38 x0 x1 x2).bind λ(x5,x6,x7,x8,x9,ac,ae,af,ag,ah,ai,aj,ak,am,an,ap,aq,av,ax,_)=>
bif (ax != 0) then (some (.inr (.inl (v0,true,x3,x4,v3,v4,v5,v6,v7,v8,v9,v10,v11,v12,v13,v14,v15,v16,v17,v18,v19,v20,v21,v22,v23,v24,v25,v26,v27,v28,v29,v30,v31,v32,v33,v34,v35,v36,v37,v38,x5,x6,x7,x8,x9,ac,ae,af,ag,ah,ai,aj,ak,am,an,ap,aq,av,())))) else
let ay:=w64 (v0 - 1);
some (.inl (ay,x3,x4,v3,v4,v5,v6,v7,v8,v9,v10,v11,v12,v13,v14,v15,v16,v17,v18,v19,v20,x5,x6,x7,x8,x9,ac,ae,af,ag,ah,ai,aj,ak,am,an,ap,aq,av,()))) else
some (.inr (.inr (v0,false,v1,v2,v3,v4,v5,v6,v7,v8,v9,v10,v11,v12,v13,v14,v15,v16,v17,v18,v19,v20,v21,v22,v23,v24,v25,v26,v27,v28,v29,v30,v31,v32,v33,v34,v35,v36,v37,v38,())))
def ug(a0:List (Int)) (a1:Int):Option (LDIn×LI×LLI×LI×Int×LDCe×LDLn×LDTh×LI×LI×LLI×LLCn×LDOp×LDOu×LI×LLI×LDEn×LI×T08):=
(mR a0 a1).bind λ(x0,x1,x2,x3,x4,_)=>
(n5 x1 x3 x4).bind λ(x5,x6,x7,x8,_)=>
(mS x7 x8).bind λ(x9,ac,ae,af,ag,ah,ai,aj,_)=>
(ra x0 x1 x2 x5 x6 x9 ac ae af ag []).bind λ(ak,am,an,ap,aq,av,ax,ay,az,aA,aB,aD,aE,aF,aG,aH,aI,aJ,aK,_)=>
(dQ 16 ai aj).bind λ(aL,aM,aO,_)=>
let aP:=w64 (3+aL);
(match dU rp NN (aP,aM,aO,(),(),(),(),0,(),(),(),(),(),(),(),(),(),(),(),(),(),ak,am,an,ap,aq,av,ax,ay,az,aA,aB,aD,aE,aF,aG,aH,[],aJ,()) with
| none=>none
| some (.inl (aQ,aR,aS,aT,aU,aV,aW,aY,aZ,ba,bc,bd,bf,bg,bh,bi,bj,bk,bl,bm,bn,bo,bp,bq,bt,bv,bx,bA,bB,bC,bD,bE,bF,bG,bH,bI,bJ,bK,bL,bM,_))=>
some (bp,bq,bt,bv,bx,bA,bB,bC,bD,bE,bF,bG,bH,bI,bJ,bK,bL,bM,aS,aT,())
| some (.inr (aQ,aR,aS,aT,aU,aV,aW,aY,aZ,ba,bc,bd,bf,bg,bh,bi,bj,bk,bl,bm,bn,bo,bp,bq,bt,bv,bx,bA,bB,bC,bD,bE,bF,bG,bH,bI,bJ,bK,bL,bM,_))=>
some (bp,bq,bt,bv,bx,bA,bB,bC,bD,bE,bF,bG,bH,bI,bJ,bK,bL,bM,aS,aT,()))
def Lq:X.Cfg:=⟨E0,[u4,xf,u5,wM,gh,xg,yQ],[],[⟨5,0,qS [zaa 0,zaa 2,zaa 4,Uaa 6] [(2,Xab),(6,yah),(10,yad)],[(.exit 0,qS [zaa 0,zaa 2,zaa 4,Uaa 6,zaa 7,Xaa 37] [(2,Xab),(6,yah),(10,yaf),(16,yad)]),(.exit 0,qS [zaa 0,zaa 2,zaa 4,Uaa 6,Xaa 26] [(2,Xab),(6,yah),(10,yad)])]⟩]⟩
def Dw:Ctr:=⟨27,107,[.ptr ⟨2,0,[]⟩ [0]],[(2,Xab)],[⟨yaf,[.agg 18],[(2,Xab)]⟩],ap2 ug⟩
theorem Li:Lk 9 Dw:=ls Lq (aC Cg (aC Ek (aC Ch (aC D1 (aC gO (aC El (aC F6 aN)))))))
def hZ:T33->Option (T33⊕T35):=λ(v0,v1,v2,v3,v4,v5,v6,v7,v8,v9,v10,v11,v12,_)=>
bif decide (v6 < v5) then ((d9 v1).bind λx0=>
(dM v9 x0).bind λx1=>
let x2:=w64 (x1+v6);
(nh v7 v8 x2).bind λ(x3,x4,_)=>
(iZ v9 v10 v0 x3 x4).bind λ(x5,x6,x7,x8,_)=>
let x9:LDCn:=[(x5,(x6,(x7,x8)))];
bif (dY 24 v12.length x9.length) then let ac:LDCn:=(List.append v12 x9);
let ae:=w64 (v6+1);
some (.inl (v0,v1,v2,v3,v4,v5,ae,v7,v8,v9,v10,v11,ac,())) else none) else
some (.inr (v0,v1,v2,v3,v4,v5,v6,false,v7,v8,v9,v10,v11,v12,()))
def hY:T2p->Option (T2p⊕T2E):=λ(v0,v1,v2,v3,v4,v5,v6,v7,v8,_)=>
bif decide (v3 < v2) then ((d9 v3).bind λx0=>
(dM v1 x0).bind λx1=>
(dU hZ NN (v0,v3,v1,v2,v3,x1,0,v4,v5,v6,v7,v8,[],())).bind λ(x2,x3,x4,x5,x6,x7,x8,x9,ac,ae,af,ag,ah,ai,_)=>
bif (dY 24 ah.length (List.length [ai])) then let aj:List LDCn:=(List.append ah [ai]);
let ak:=w64 (x6+1);
some (.inl (x2,x4,x5,ak,ac,ae,af,ag,aj,())) else none) else
some (.inr (v0,v1,v2,v3,false,v4,v5,v6,v7,v8,()))
def lG(a0:LDCe) (a1:LDLn) (a2:List (Int)) (a3:Int) (a4:List (Int)):Option (LLCn×Unit):=
let x0:=dN a4.length;
(dU hY NN (a4,a4,x0,0,a0,a1,a2,a3,[],())).bind λ(x1,x2,x3,x4,x5,x6,x7,x8,x9,ac,_)=>
some (ac,())
def Bd:X.Cfg:=⟨E0,[tV,oj],[(41,(uaa KCn)),(42,(uaa KCn))],[⟨12,0,qS [sP 2 RI,zaa 3,zaa 4,Zaa 7 17,Uaa 8,Zaa 10 23,sP 12 RI,Uaa 13,Uaa 14,Uaa 19,Uaa 20] [(8,uae),(10,Uab),(17,Uah),(23,uag)],[(.exit 2,qS [sP 2 RI,zaa 3,zaa 4,Zaa 7 17,Uaa 8,Zaa 10 23,sP 12 RI,Uaa 13,Uaa 14,Uaa 19,Uaa 20,Xaa 21] [(8,uae),(10,Uab),(17,Uah),(23,uag)])]⟩,(lx 4 1 [sP 2 RI,zaa 3,zaa 4,Zaa 7 17,sP 12 RI,Uaa 13,Uaa 14] [(8,uae),(10,Uab),(17,Uah)] 15)]⟩
def tU:Ctr:=⟨30,108,[.agg uae,.agg Uab,shU RI],[],[⟨Uah,[.one],[]⟩],ap5 lG⟩
theorem AV:Lk 3 tU:=ls Bd (aC yG (aC rC aN))
def i7:T3K->Option (T3K⊕T3N):=λ(v0,v1,v2,v3,v4,v5,v6,v7,v8,v9,v10,v11,v12,v13,v14,v15,v16,v17,v18,v19,v20,v21,v22,v23,v24,v25,v26,v27,v28,v29,v30,v31,v32,v33,_)=>
bif decide (v5 < v4) then ((d9 v5).bind λx0=>
(dM v3 x0).bind λx1=>
(iZ v9 v10 v7 x1.1 x1.2).bind λ(x2,x3,x4,x5,_)=>
let x6:LDCn:=[(x2,(x3,(x4,x5)))];
bif (dY 24 v33.length x6.length) then let x7:LDCn:=(List.append v33 x6);
let x8:=w64 (v5+1);
some (.inl (v0,v1,v2,v3,v4,x8,v6,v7,v8,v9,v10,v11,v12,v13,v14,v15,v16,v17,v18,v19,v20,v21,v22,v23,v24,v25,v26,v27,v28,v29,v30,v31,v32,x7,())) else none) else
some (.inr (v0,v1,v2,v3,v4,v5,false,v6,v7,v8,v9,v10,v11,v12,v13,v14,v15,v16,v17,v18,v19,v20,v21,v22,v23,v24,v25,v26,v27,v28,v29,v30,v31,v32,v33,()))
def i6:T38->Option (T38⊕T3d):=λ(v0,v1,v2,v3,v4,v5,v6,v7,v8,v9,v10,v11,v12,v13,v14,_)=>
bif decide (v2 < v1) then ((d9 v2).bind λx0=>
(dM v0 x0).bind λx1=>
let x2:=dN x1.2.1.length;
(dU i7 NN (v0,v1,v2,x1.2.1,x2,0,v3,v4,v5,v6,v7,v8,v9,v10,v11,v12,v13,v14,x1.1,x1.2.1,x1.2.2.1,x1.2.2.2.1,x1.2.2.2.2.1,x1.2.2.2.2.2.1,x1.2.2.2.2.2.2.1,x1.2.2.2.2.2.2.2,x1.1,x1.2.2.1,x1.2.2.2.1,x1.2.2.2.2.1,x1.2.2.2.2.2.1,x1.2.2.2.2.2.2.1,x1.2.2.2.2.2.2.2,[],())).bind λ(x3,x4,x5,x6,x7,x8,x9,ac,ae,af,ag,ah,ai,aj,ak,am,an,ap,aq,av,ax,ay,az,aA,aB,aD,aE,aF,aG,aH,aI,aJ,aK,aL,aM,_)=>
let aO:LDTs:=[(aF,(aG,(aH,(aI,(aJ,(aK,(aL,aM)))))))];
bif (dY 80 aq.length aO.length) then let aP:LDTs:=(List.append aq aO);
let aQ:=w64 (x5+1);
some (.inl (x3,x4,aQ,ac,ae,af,ag,ah,ai,aj,ak,am,an,ap,aP,())) else none) else
some (.inr (v0,v1,v2,false,v3,v4,v5,v6,v7,v8,v9,v10,v11,v12,v13,v14,()))
def lA(a0:LDIn) (a1:List (Int)) (a2:List LI) (a3:List (Int)) (a4:Int) (a5:LDCe) (a6:LDLn) (a7:LDTh):Option (T0b):=
(lG a5 a6 a3 a4 a1).bind λ(x0,_)=>
let x1:=dN a7.length;
(dU i6 NN (a7,x1,0,a0,a1,a2,a3,a4,a5,a6,a7,(),(),x0,[],())).bind λ(x2,x3,x4,x5,x6,x7,x8,x9,ac,ae,af,ag,ah,ai,aj)=>
some (aj)
def EC:X.Cfg:=⟨E0,[tU,oj],[(63,yj),(64,yj)],[⟨12,0,qS [zaa 2,zaa 3,zaa 4,zaa 5,zaa 8,sP 20 gH,Uaa 21,Uaa 22,sP 42 fi,Uaa 43,Uaa 44] [(6,uab),(8,zac),(10,Zab),(12,yae),(16,Uad),(18,Zai)],[(.exit 2,qS [zaa 2,zaa 3,zaa 4,zaa 5,zaa 8,sP 20 gH,Uaa 21,Uaa 22,sP 42 fi,Uaa 43,Uaa 44,Xaa 45] [(6,uab),(8,zac),(10,Zab),(12,yae),(16,Uad),(18,Zai)])]⟩,(lx 4 1 [zaa 2,zaa 3,zaa 4,zaa 5,sP 20 gH,Uaa 21,Uaa 22] [(6,uab),(8,zac),(10,Zab),(12,yae)] 23)]⟩
def rQ:Ctr:=⟨8,109,[.agg uab,.agg zac],[],[⟨yae,[.agg 2],[]⟩],ap8 lA⟩
theorem we:Lk 4 rQ:=ls EC (aC AV (aC rC aN))
def ja:Int×T0o->Option ((Int×T0o)⊕(Int×T0L)):=λ(v0,v1,v2,v3,_)=>
bif decide (v3 < v2) then ((d9 v3).bind λx0=>
(dM v1 x0).bind λx1=>
let x2:=w64 (v0+x1);
let x3:=w64 (v3+1);
some (.inl (x2,v1,v2,x3,()))) else
some (.inr (v0,v1,v2,v3,false,()))
def nX(a0:List (Int)):Option (Int×Unit):=
let x0:=dN a0.length;
(dU ja NN (0,a0,x0,0,())).bind λ(x1,_)=>
some (x1,())
def EY:X.Cfg:=⟨E0,[],[],[(lx 4 0 [Uaa 3,sP 6 RI,Uaa 7,Uaa 8] [] 9)]⟩
def w7:Ctr:=⟨80,110,uL [RI],[],[⟨Xac,[.one],[]⟩],ap1 nX⟩
theorem Ef:Lk 1 w7:=ls EY aN
def rj:Int×LI×T0y->Option ((Int×LI×T0y)⊕(T0f⊕T1M)):=λ(v0,v1,v2,v3,v4)=>
bif decide (v3 < v2) then ((d9 v3).bind λx0=>
(dM v1 x0).bind λx1=>
(match (bif decide (v0>=0) then (bif decide (v0 < x1) then (some (.inl (0,v3,v0,()))) else
some (.inr (v0,v3,x1,v1,v2,v3,false,v4))) else
some (.inr (v0,v3,x1,v1,v2,v3,false,v4)):Option (T0f⊕(Int×Int×T1M))) with
| none=>none
| some (.inl (x2,x3,x4,_))=>
some (.inr (.inl (x2,x3,x4,())))
| some (.inr (x2,x3,x4,x5,x6,x7,x8,x9))=>
let ae:=w64 (x2 - x4);
let af:=w64 (x7+1);
some (.inl (ae,x5,x6,af,x9)))) else
some (.inr (.inr (v0,v1,v2,v3,false,v4)))
def uf(a0:List (Int)) (a1:Int):Option (T0f):=
let x0:=dN a0.length;
(match dU rj NN (a1,a0,x0,0,0,0,()) with
| none=>none
| some (.inl (x1,x2,x3,_))=>
some (x2,x3,x1,())
| some (.inr (x1,x2,x3,_))=>
some (0,0,6,()))
def Lp:X.Cfg:=⟨E0,[],[],[⟨8,0,qE,[(.ret,qS [zaa 4,Uaa 5] [(10,Uac)]),(.normal,qS [Uaa 1,zaa 4,Uaa 6,Uaa 7,sP 8 RI,Uaa 9,Uaa 10,Xaa 21] [(10,Uac)])]⟩,⟨3,1,qS [Uaa 1,zaa 4,sP 8 RI,Uaa 9,Uaa 10] [(10,Uac)],[(.ret,qS [zaa 4,Uaa 5] [(10,Uac)]),(.exit 0,qS [Uaa 1,zaa 4,sP 8 RI,Uaa 9,Uaa 10,Xaa 11] [(10,Uac)])]⟩]⟩
def Dv:Ctr:=⟨79,111,Xab,[],[⟨Zaj,[.agg 2,.one],[]⟩],ap2 uf⟩
theorem Lh:Lk 1 Dv:=ls Lp aN
def ni(a0:List (Int)) (a1:List (Int)) (a2:Int):Option (Int×Int×T0B):=
(dQ 6 a1 a2).bind λ(x0,x1,x2,_)=>
bif (x0==4) then ((nX a0).bind λ(x3,_)=>
(dQ x3 x1 x2).bind λ(x4,x5,x6,_)=>
(uf a0 x4).bind λ(x7,x8,x9,_)=>
some (1,0,x7,x8,x5,x6,())) else
bif (x0==5) then ((dQ 10 x1 x2).bind λ(x3,x4,x5,_)=>
let x6:=wk .u16 x3;
some (2,x6,0,0,x4,x5,())) else
(jH x1 x2).bind λ(x3,x4,x5,_)=>
some (0,x3,0,0,x4,x5,())
def Hk:X.Cfg:=⟨E0,[gh,w7,Dv,o6],[],[]⟩
def zm:Ctr:=⟨29,112,[.ptr ⟨2,0,[]⟩ [0],shU RI],[(2,Xab)],[⟨Uaf,[.agg 4],[(2,Xab)]⟩],ap3 ni⟩
theorem Gv:Lk 5 zm:=ls Hk (aC gO (aC Ef (aC Lh (aC rD aN))))
def eW:T0K->Option (T0K⊕((Bool×Unit)⊕T15)):=λ(v0,v1,v2,v3,_)=>
bif decide (v3 < v2) then ((d9 v3).bind λx0=>
(dM v1 x0).bind λx1=>
(bif decide (x1.1>=0) then (bif decide (x1.1<=4) then (bif decide (x1.2.1>=0) then (bif decide (x1.2.1<=255) then (bif decide (x1.2.2.1>=0) then (bif decide (x1.2.2.1<=1099511627776) then (bif (decide (x1.2.2.2.1>=(-1))) then (bif decide (x1.2.2.2.1<=255) then (bif (decide (x1.2.2.2.2.1>=(-1))) then (bif decide (x1.2.2.2.2.1<=255) then (bif decide (x1.2.2.2.2.2.1>=0) then (some (v0,(decide (x1.2.2.2.2.2.1<=6)),v1,v2,v3,x1.1,x1.2.1,x1.2.2.1,x1.2.2.2.1,x1.2.2.2.2.1,x1.2.2.2.2.2.1,x1.2.2.2.2.2.2.1,x1.2.2.2.2.2.2.2,())) else
some (v0,false,v1,v2,v3,x1.1,x1.2.1,x1.2.2.1,x1.2.2.2.1,x1.2.2.2.2.1,x1.2.2.2.2.2.1,x1.2.2.2.2.2.2.1,x1.2.2.2.2.2.2.2,())) else
some (v0,false,v1,v2,v3,x1.1,x1.2.1,x1.2.2.1,x1.2.2.2.1,x1.2.2.2.2.1,x1.2.2.2.2.2.1,x1.2.2.2.2.2.2.1,x1.2.2.2.2.2.2.2,())) else
some (v0,false,v1,v2,v3,x1.1,x1.2.1,x1.2.2.1,x1.2.2.2.1,x1.2.2.2.2.1,x1.2.2.2.2.2.1,x1.2.2.2.2.2.2.1,x1.2.2.2.2.2.2.2,())) else
some (v0,false,v1,v2,v3,x1.1,x1.2.1,x1.2.2.1,x1.2.2.2.1,x1.2.2.2.2.1,x1.2.2.2.2.2.1,x1.2.2.2.2.2.2.1,x1.2.2.2.2.2.2.2,())) else
some (v0,false,v1,v2,v3,x1.1,x1.2.1,x1.2.2.1,x1.2.2.2.1,x1.2.2.2.2.1,x1.2.2.2.2.2.1,x1.2.2.2.2.2.2.1,x1.2.2.2.2.2.2.2,())) else
some (v0,false,v1,v2,v3,x1.1,x1.2.1,x1.2.2.1,x1.2.2.2.1,x1.2.2.2.2.1,x1.2.2.2.2.2.1,x1.2.2.2.2.2.2.1,x1.2.2.2.2.2.2.2,())) else
some (v0,false,v1,v2,v3,x1.1,x1.2.1,x1.2.2.1,x1.2.2.2.1,x1.2.2.2.2.1,x1.2.2.2.2.2.1,x1.2.2.2.2.2.2.1,x1.2.2.2.2.2.2.2,())) else
some (v0,false,v1,v2,v3,x1.1,x1.2.1,x1.2.2.1,x1.2.2.2.1,x1.2.2.2.2.1,x1.2.2.2.2.2.1,x1.2.2.2.2.2.2.1,x1.2.2.2.2.2.2.2,())) else
some (v0,false,v1,v2,v3,x1.1,x1.2.1,x1.2.2.1,x1.2.2.2.1,x1.2.2.2.2.1,x1.2.2.2.2.2.1,x1.2.2.2.2.2.2.1,x1.2.2.2.2.2.2.2,())) else
some (v0,false,v1,v2,v3,x1.1,x1.2.1,x1.2.2.1,x1.2.2.2.1,x1.2.2.2.2.1,x1.2.2.2.2.2.1,x1.2.2.2.2.2.2.1,x1.2.2.2.2.2.2.2,())) else
some (v0,false,v1,v2,v3,x1.1,x1.2.1,x1.2.2.1,x1.2.2.2.1,x1.2.2.2.2.1,x1.2.2.2.2.2.1,x1.2.2.2.2.2.2.1,x1.2.2.2.2.2.2.2,()):Option (LDTs×Bool×LDTs×T2y)).bind λ(x2,x3,x4,x5,x6,x7,x8,x9,ac,ae,af,ag,ah,_)=>
(bif (!x3) then (some (x2,x4,x5,x6,true,())) else
let ai:=dN ah.length;
bif (ai != 8) then (some (x2,x4,x5,x6,true,())) else
(ff ah 8).bind λ(aj,_)=>
some (x2,x4,x5,x6,(!aj),()):Option (T15)).bind λ(ai,aj,ak,am,an,_)=>
bif an then (some (.inr (.inl (false,())))) else
let ap:=w64 (am+1);
some (.inl (ai,aj,ak,ap,()))) else
some (.inr (.inr (v0,v1,v2,v3,false,())))
def gK(a0:LDTs):Option (Bool×Unit):=
let x0:=dN a0.length;
(match dU eW NN (a0,a0,x0,0,()) with
| none=>none
| some (.inl (x1,_))=>
some (x1,())
| some (.inr (x1,_))=>
let x6:=dN x1.length;
some ((x6==4),()))
def Bb:X.Cfg:=⟨E0,[gD],[],[⟨8,0,qE,[(.normal,qS [sP 0 (yaa gi),zaa 4,Xaa 5,sP 6 (yaa gi),Uaa 7,Uaa 8] [(10,Xah)])]⟩,⟨9,1,qE,[(.normal,qS [sP 0 (yaa gi),sP 6 (yaa gi),Uaa 7,Uaa 8,Xaa 83] [])]⟩,⟨3,2,qS [sP 0 (yaa gi),sP 6 (yaa gi),Uaa 7,Uaa 8] [],[(.ret,qS [Xaa 2] []),(.exit 0,qS [sP 0 (yaa gi),sP 6 (yaa gi),Uaa 7,Uaa 8,Xaa 9] [])]⟩]⟩
def o4:Ctr:=⟨41,113,uL [(yaa gi)],[],[⟨yab,[.one],[]⟩],ap1 gK⟩
theorem to:Lk 3 o4:=ls Bb (aC ic aN)
def fG:T2a->Option (T2a⊕((Bool×Unit)⊕T2r)):=λ(v0,v1,v2,v3,v4,v5)=>
bif decide (v2 < v1) then ((d9 v2).bind λx0=>
(dM v0 x0).bind λx1=>
let x2:=dN x1.length;
(d9 v2).bind λx3=>
(dM v4 x3).bind λx4=>
bif (x2 != x4) then (some (.inr (.inl (false,())))) else
(ff x1 32).bind λ(x5,_)=>
bif (!x5) then (some (.inr (.inl (false,())))) else
let x6:=w64 (v2+1);
some (.inl (v0,v1,x6,v3,v4,v5))) else
some (.inr (.inr (v0,v1,v2,false,v3,v4,v5)))
def iW(a0:LDIn) (a1:List (Int)) (a2:List LI) (a3:List LDCn) (a4:LDTs):Option (Bool×Unit):=
((iX a0 a1 a2).bind λ(x0,_)=>
bif (x0 != 0) then (some (true,a0,a1,a2,a3,a4,())) else
let x1:=dN a3.length;
let x2:=dN a1.length;
bif (x1 != x2) then (some (true,a0,a1,a2,a3,a4,())) else
(gK a4).bind λ(x3,_)=>
some ((!x3),a0,a1,a2,a3,a4,()):Option (T1c)).bind λ(x0,x1,x2,x3,x4,x5,_)=>
bif x0 then (some (false,())) else
let x6:=dN x4.length;
(match dU fG NN (x4,x6,0,x1,x2,x3,x4,x5,()) with
| none=>none
| some (.inl (x7,_))=>
some (x7,())
| some (.inr (x7,_))=>
some (true,()))
def EB:X.Cfg:=⟨E0,[oi,o4,gD],[],[⟨2,0,qE,[(.normal,qS [zaa 2,zaa 3,Xaa 24] [(6,uab),(8,zab)])]⟩,⟨6,1,qS [zaa 2,sP 26 (yaa d8),Uaa 27,Uaa 28] [(6,uab),(8,zab)],[(.ret,qS [Xaa 4] []),(.exit 0,qS [zaa 2,sP 26 (yaa d8),Uaa 27,Uaa 28,Xaa 29] [(6,uab),(8,zab)])]⟩]⟩
def rP:Ctr:=⟨15,114,[.agg uab,.agg zab],[],[⟨yab,[.one],[]⟩],ap5 iW⟩
theorem vZ:Lk 4 rP:=ls EB (aC rB (aC to (aC ic aN)))
def fF:LDTs×Int×Int×LLCn×LDTs×LLCn×Unit->Option ((LDTs×Int×Int×LLCn×LDTs×LLCn×Unit)⊕(LDTs×Int×Int×Bool×LLCn×LDTs×LLCn×Unit)):=λ(v0,v1,v2,v3,v4,v5,_)=>
bif decide (v2 < v1) then ((d9 v2).bind λx0=>
(dM v0 x0).bind λx1=>
let x2:List LDCn:=[x1.2.2.2.2.2.2.2];
bif (dY 24 v5.length x2.length) then let x3:List LDCn:=(List.append v5 x2);
let x4:=w64 (v2+1);
some (.inl (v0,v1,x4,v3,v4,x3,())) else none) else
some (.inr (v0,v1,v2,false,v3,v4,v5,()))
def iV(a0:List LDCn) (a1:LDTs):Option (LLCn×Unit):=
bif (dY 24 0 a0.length) then let x0:List LDCn:=(List.append [] a0);
let x1:=dN a1.length;
(dU fF NN (a1,x1,0,a0,a1,x0,())).bind λ(x2,x3,x4,x5,x6,x7,x8,_)=>
some (x8,()) else none
def EA:X.Cfg:=⟨E0,[],[(8,(uaa KCn)),(19,(uaa KCn)),(20,(uaa KCn))],[(lx 4 0 [Zaa 3 9,sP 10 (yaa gi),Uaa 11,Uaa 12] [(4,zab),(9,zag)] 13)]⟩
def rO:Ctr:=⟨48,115,[.agg zab],[],[⟨zag,[.one],[]⟩],ap2 iV⟩
theorem vY:Lk 1 rO:=ls EA aN
def iD:T3h->Option (T3h⊕(T1e⊕(Int×Int×LDCn×T3a))):=λ(v0,v1,v2,v3,v4,v5,v6,v7)=>
bif decide (v4 < v3) then ((d9 v4).bind λx0=>
(dM v2 x0).bind λx1=>
(ij v6 x1.1 x1.2.1 x1.2.2.1 x1.2.2.2).bind λ(x2,_)=>
bif (!x2) then (some (.inr (.inl (false,(),0,(),(),(),())))) else
let x3:=w64 (v4+1);
some (.inl (v0,v1,v2,v3,x3,v5,v6,v7))) else
some (.inr (.inr (v0,v1,v2,v3,v4,false,v5,v6,v7)))
def iC:T36->Option (T36⊕(T1e⊕T3a)):=λ(v0,v1,v2,v3,v4,v5,v6,v7,v8,v9,v10,v11,v12,v13,v14,_)=>
bif decide (v1 < v0) then ((d9 v1).bind λx0=>
(dM v14 x0).bind λx1=>
(dM v14 x0).bind λx2=>
let x3:=dN x2.length;
(match dU iD NN (v0,v1,x2,x3,0,v2,v3,v4,v5,v6,v7,v8,v9,v10,v11,v12,v13,v14,()) with
| none=>none
| some (.inl (x4,x5,x6,x7,x8,x9,_))=>
some (.inr (.inl (x4,x5,x6,x7,x8,x9,())))
| some (.inr (x4,x5,x6,x7,x8,x9,ac))=>
let ax:=w64 (x5+1);
some (.inl (x4,ax,ac)))) else
some (.inr (.inr (v0,v1,false,v2,v3,v4,v5,v6,v7,v8,v9,v10,v11,v12,v13,v14,())))
def qo:T3w->Option (T3w⊕(Int×LLCn×Int×Int×LDCn×T3r)):=λ(v0,v1,v2,v3,v4,v5,v6,v7,v8,v9,v10,v11,v12,v13,v14,v15,v16,v17,v18,v19,v20,v21,v22)=>
bif decide (v6 < v5) then ((d9 v6).bind λx0=>
(dM v4 x0).bind λx1=>
(d9 v0).bind λx2=>
(dM v10 x2).bind λx3=>
let x4:=w64 (x3+v6);
(ii v10 v11 v8 x1.1 x1.2.1 x1.2.2.1 x1.2.2.2).bind λ(x5,x6,x7,_)=>
(d9 x4).bind λx8=>
(dM v21 x8).bind λx9=>
(dM v21 x8).bind λac=>
let ae:=List.modify v21 x8 λe=>(x5,x6);
let af:=w64 (v6+1);
some (.inl (v0,v1,v2,v3,v4,v5,af,v7,v8,v9,v10,v11,v12,v13,v14,v15,v16,v17,v18,v19,v20,ae,v22))) else
some (.inr (v0,v1,v2,v3,v4,v5,v6,false,v7,v8,v9,v10,v11,v12,v13,v14,v15,v16,v17,v18,v19,v20,v21,v22))
def qn:T3t->Option (T3t⊕(LLCn×T3r)):=λ(v0,v1,v2,v3)=>
bif decide (v2 < v1) then ((d9 v2).bind λx0=>
(dM v0 x0).bind λx1=>
let x2:=dN x1.length;
(dU qo NN (v2,v0,v1,v2,x1,x2,0,v3)).bind λ(x3,x4,x5,x6,x7,x8,x9,ac,ae)=>
let aD:=w64 (x6+1);
some (.inl (x4,x5,aD,ae))) else
some (.inr (v0,v1,v2,false,v3))
def iB:T44->Option (T44⊕(LDTs×Int×Int×LDCn×Int×Int×Bool×T3I)):=λ(v0,v1,v2,v3,v4,v5,v6,v7,v8,v9,v10,v11,v12,v13,v14,v15,v16,v17,v18,v19,v20,v21,v22,v23,v24,v25,v26,v27,v28,v29,v30,v31,v32,v33)=>
bif decide (v5 < v4) then ((d9 v5).bind λx0=>
(dM v3 x0).bind λx1=>
(ii v9 v10 v7 x1.1 x1.2.1 x1.2.2.1 x1.2.2.2).bind λ(x2,x3,x4,_)=>
let x5:LDCe:=[(x2,x3)];
bif (dY 4 v32.length x5.length) then let x6:LDCe:=(List.append v32 x5);
let x7:=w64 (v5+1);
some (.inl (v0,v1,v2,v3,v4,x7,v6,v7,v8,v9,v10,v11,v12,v13,v14,v15,v16,v17,v18,v19,v20,v21,v22,v23,v24,v25,v26,v27,v28,v29,v30,v31,x6,v33)) else none) else
some (.inr (v0,v1,v2,v3,v4,v5,false,v6,v7,v8,v9,v10,v11,v12,v13,v14,v15,v16,v17,v18,v19,v20,v21,v22,v23,v24,v25,v26,v27,v28,v29,v30,v31,v32,v33))
def iA:T3s->Option (T3s⊕(LDTs×Int×Int×Bool×T3f)):=λ(v0,v1,v2,v3,v4,v5,v6,v7,v8,v9,v10,v11,v12,v13,v14,v15,v16,v17,v18,v19,_)=>
bif decide (v2 < v1) then ((d9 v2).bind λx0=>
(dM v0 x0).bind λx1=>
let x2:=dN x1.2.2.2.2.2.2.2.length;
(dU iB NN (v0,v1,v2,x1.2.2.2.2.2.2.2,x2,0,v3,v4,v5,v6,v7,v8,v9,v10,v11,v12,v13,v14,v15,v16,v17,v18,v19,x1.1,x1.2.1,x1.2.2.1,x1.2.2.2.1,x1.2.2.2.2.1,x1.2.2.2.2.2.1,x1.2.2.2.2.2.2.1,x1.2.2.2.2.2.2.2,x1.1,[],x1.2.1,x1.2.2.1,x1.2.2.2.1,x1.2.2.2.2.1,x1.2.2.2.2.2.1,x1.2.2.2.2.2.2.1,())).bind λ(x3,x4,x5,x6,x7,x8,x9,ac,ae,af,ag,ah,ai,aj,ak,am,an,ap,aq,av,ax,ay,az,aA,aB,aD,aE,aF,aG,aH,aI,aJ,aK,aL,aM,aO,aP,aQ,aR,aS,_)=>
let aT:LDTh:=[(aK,(aL,(aM,(aO,(aP,(aQ,(aR,aS)))))))];
bif (dY 80 aA.length aT.length) then let aU:LDTh:=(List.append aA aT);
let aV:=w64 (x5+1);
some (.inl (x3,x4,aV,ac,ae,af,ag,ah,ai,aj,ak,am,an,ap,aq,av,ax,ay,az,aU,())) else none) else
some (.inr (v0,v1,v2,false,v3,v4,v5,v6,v7,v8,v9,v10,v11,v12,v13,v14,v15,v16,v17,v18,v19,()))
def mK(a0:LDIn) (a1:List (Int)) (a2:List LI) (a3:List (Int)) (a4:Int) (a5:List LDCn) (a6:LDTs):Option (T1s):=
(iW a0 a1 a2 a5 a6).bind λ(x0,_)=>
bif (!x0) then (some ([],0,[],[],[],false,())) else
(iY a3 a4 a1).bind λ(x1,_)=>
bif (!x1) then (some ([],0,[],[],[],false,())) else
(iV a5 a6).bind λ(x2,_)=>
let x3:=dN x2.length;
(match dU iC NN (x3,0,a0,a1,a2,a3,a4,a5,a6,(),0,(),(),(),x2,()) with
| none=>none
| some (.inl (x4,x5,x6,x7,x8,x9,_))=>
some ([],x6,[],[],[],x4,())
| some (.inr (x4,x5,x6,x7,x8,x9,ac,ae,af,ag,ah,ai,aj,ak,am,an,_))=>
bif (dY 8 0 ac.length) then let ap:List (Int):=(List.append [] ac);
bif (uy 512 512 2) then let aq:LDCe:=(List.replicate 512 (0,0));
(nW).bind λ(av,_)=>
let ax:=dN af.length;
(dU qn NN (af,ax,0,x7,x8,x9,ac,ae,af,ag,ah,ai,aj,ak,am,ap,ae,aq,av,(),())).bind λ(ay,az,aA,aB,aD,aE,aF,aG,aH,aI,aJ,aK,aL,aM,aO,aP,aQ,aR,aS,aT,aU,_)=>
let aV:=dN aJ.length;
(dU iA NN (aJ,aV,0,aD,aE,aF,aG,aH,aI,aJ,aK,aL,aM,aO,aP,aQ,aR,aS,aT,[],())).bind λ(aW,aY,aZ,ba,bc,bd,bf,bg,bh,bi,bj,bk,bl,bm,bn,bo,bp,bq,bt,bv,bx,_)=>
some (bp,bq,bt,bv,bx,true,()) else none else none)
def Cr:X.Cfg:=⟨E0,[rP,l8,rO,kq,rU,rV],[(150,RZ),(151,RZ)],[⟨12,0,qS [zaa 3,zaa 4,zaa 5,zaa 6,Zaa 37 77,Uaa 38,Uaa 39,sP 43 d8,Uaa 44,Uaa 45] [(8,uab),(10,Uab),(12,zab),(14,yac),(77,zag)],[(.ret,qS [zaa 6,Xaa 7] [(14,yac)]),(.exit 2,qS [zaa 3,zaa 4,zaa 5,zaa 6,Zaa 37 77,Uaa 38,Uaa 39,sP 43 d8,Uaa 44,Uaa 45,Xaa 46] [(8,uab),(10,Uab),(12,zab),(14,yac),(77,zag)])]⟩,⟨6,1,qS [zaa 3,zaa 4,zaa 5,zaa 6,Zaa 37 77,Uaa 38,Uaa 39] [(8,uab),(10,Uab),(12,zab),(14,yac),(77,zag)],[(.ret,qS [zaa 6,Xaa 7] [(14,yac)]),(.exit 0,qS [zaa 3,zaa 4,zaa 5,zaa 6,Zaa 37 77,Uaa 38,Uaa 39,Xaa 40] [(8,uab),(10,Uab),(12,zab),(14,yac),(77,zag)])]⟩,⟨28,2,qS [zaa 3,zaa 4,zaa 5,zaa 6,zaa 12,Uaa 13,sP 68 (yaa d8),Uaa 69,Uaa 70,sP 75 d8,Uaa 76,Uaa 77] [(8,uab),(10,Uab),(12,zab),(14,yac),(26,uaj)],[(.exit 6,qS [zaa 3,zaa 4,zaa 5,zaa 6,zaa 12,Uaa 13,sP 68 (yaa d8),Uaa 69,Uaa 70,sP 75 d8,Uaa 76,Uaa 77,Xaa 78] [(8,uab),(10,Uab),(12,zab),(14,yac),(26,uaj)])]⟩,⟨22,3,qS [zaa 3,zaa 4,zaa 5,zaa 6,zaa 12,sP 68 (yaa d8),Uaa 69,Uaa 70] [(8,uab),(10,Uab),(12,zab),(14,yac),(26,uaj)],[(.exit 4,qS [zaa 3,zaa 4,zaa 5,zaa 6,zaa 12,sP 68 (yaa d8),Uaa 69,Uaa 70,Xaa 71] [(8,uab),(10,Uab),(12,zab),(14,yac),(26,uaj)])]⟩,⟨43,4,qS [zaa 3,zaa 4,zaa 6,zaa 12,zaa 19,sP 104 (yaa gi),Uaa 105,Uaa 106,sP 126 d8,Uaa 127,Uaa 128] [(8,uab),(10,Uab),(12,zab),(14,yac),(26,Zac),(38,Xah),(40,uah)],[(.exit 10,qS [zaa 3,zaa 4,zaa 6,zaa 12,zaa 19,sP 104 (yaa gi),Uaa 105,Uaa 106,sP 126 d8,Uaa 127,Uaa 128,Xaa 129] [(8,uab),(10,Uab),(12,zab),(14,yac),(26,Zac),(38,Xah),(40,uah)])]⟩,⟨35,5,qS [zaa 3,zaa 4,zaa 6,zaa 12,sP 104 (yaa gi),Uaa 105,Uaa 106] [(8,uab),(10,Uab),(12,zab),(14,yac),(26,Zac)],[(.exit 8,qS [zaa 3,zaa 4,zaa 6,zaa 12,sP 104 (yaa gi),Uaa 105,Uaa 106,Xaa 107] [(8,uab),(10,Uab),(12,zab),(14,yac),(26,Zac)])]⟩]⟩
def uU:Ctr:=⟨23,116,[.agg uab,.agg Uab,.agg zab],[],[⟨Xak,[.agg 5,.one],[]⟩],ap7 mK⟩
theorem B9:Lk 5 uU:=ls Cr (aC vZ (aC oa (aC vY (aC mY (aC wl (aC vk aN))))))
def mw:T3R->Option (T3R⊕T3Y):=λ(v0,v1,v2,v3,v4,v5,v6,v7,v8,v9,v10,v11,v12,v13,v14,v15,v16,v17,v18,v19,v20,v21,v22,v23,v24,v25,v26,v27,v28,v29,v30,v31,v32,v33,v34,v35,v36,_)=>
bif decide (v1 < v0) then (((dQ 3 v2 v3).bind λ(x0,x1,x2,_)=>
bif (x0==0) then ((dM v35 0).bind λx3=>
(dM v35 0).bind λx4=>
(ni v13 x1 x2).bind λ(x5,x6,x7,x8,x9,ac,_)=>
(d9 v1).bind λae=>
(dM v35 0).bind λaf=>
(dM af ae).bind λag=>
(dM v35 0).bind λah=>
(dM ah ae).bind λai=>
let aj:=(List.modify v35 0 λe=>(List.modify e ae λe=>(x5,(x6,(x7,x8)))));
some (v0,v1,x9,ac,v4,v5,v6,v7,v8,v9,v10,v11,v12,v13,v14,v15,v16,v17,v18,v19,v20,v21,v22,v23,v24,v25,v26,v27,v28,v29,v30,v31,v32,v33,v34,aj,v36,())) else
some (v0,v1,x1,x2,v4,v5,v6,v7,v8,v9,v10,v11,v12,v13,v14,v15,v16,v17,v18,v19,v20,v21,v22,v23,v24,v25,v26,v27,v28,v29,v30,v31,v32,v33,v34,v35,v36,()):Option (T3R)).bind λ(x0,x1,x2,x3,x4,x5,x6,x7,x8,x9,ac,ae,af,ag,ah,ai,aj,ak)=>
let aM:=w64 (x1+1);
some (.inl (x0,aM,x2,x3,x4,x5,x6,x7,x8,x9,ac,ae,af,ag,ah,ai,aj,ak))) else
some (.inr (v0,v1,false,v2,v3,v4,v5,v6,v7,v8,v9,v10,v11,v12,v13,v14,v15,v16,v17,v18,v19,v20,v21,v22,v23,v24,v25,v26,v27,v28,v29,v30,v31,v32,v33,v34,v35,v36,()))
def qr:T46->Option (T46⊕(Int×Int×Int×T3Y)):=λ(v0,v1,v2,v3,v4,v5,v6,v7,v8,v9,v10,v11,v12,v13,v14,v15,v16,v17,v18,v19,v20,v21,v22,v23,v24,v25,v26,v27,v28,v29,v30,v31,v32,v33,v34,v35,v36,v37,v38,v39,_)=>
bif decide (v4 < v3) then (((dQ 3 v5 v6).bind λ(x0,x1,x2,_)=>
bif (x0==0) then ((d9 v0).bind λx3=>
(dM v39 x3).bind λx4=>
(dM v39 x3).bind λx5=>
(ni v16 x1 x2).bind λ(x6,x7,x8,x9,ac,ae,_)=>
(d9 v4).bind λaf=>
(dM v39 x3).bind λag=>
(dM ag.2.2.2.2.2.2.2 af).bind λah=>
(dM v39 x3).bind λai=>
(dM ai.2.2.2.2.2.2.2 af).bind λaj=>
let ak:=(List.modify v39 x3 λe=>(e.1,(e.2.1,(e.2.2.1,(e.2.2.2.1,(e.2.2.2.2.1,(e.2.2.2.2.2.1,(e.2.2.2.2.2.2.1,(List.modify e.2.2.2.2.2.2.2 af λe=>(x6,(x7,(x8,x9))))))))))));
some (v0,v1,v2,v3,v4,ac,ae,v7,v8,v9,v10,v11,v12,v13,v14,v15,v16,v17,v18,v19,v20,v21,v22,v23,v24,v25,v26,v27,v28,v29,v30,v31,v32,v33,v34,v35,v36,v37,v38,ak,())) else
some (v0,v1,v2,v3,v4,x1,x2,v7,v8,v9,v10,v11,v12,v13,v14,v15,v16,v17,v18,v19,v20,v21,v22,v23,v24,v25,v26,v27,v28,v29,v30,v31,v32,v33,v34,v35,v36,v37,v38,v39,()):Option (T46)).bind λ(x0,x1,x2,x3,x4,x5,x6,x7,x8,x9,ac,ae,af,ag,ah,ai,aj,ak,am)=>
let aQ:=w64 (x4+1);
some (.inl (x0,x1,x2,x3,aQ,x5,x6,x7,x8,x9,ac,ae,af,ag,ah,ai,aj,ak,am))) else
some (.inr (v0,v1,v2,v3,v4,false,v5,v6,v7,v8,v9,v10,v11,v12,v13,v14,v15,v16,v17,v18,v19,v20,v21,v22,v23,v24,v25,v26,v27,v28,v29,v30,v31,v32,v33,v34,v35,v36,v37,v38,v39,()))
def mu:T3R->Option (T3R⊕T3Y):=λ(v0,v1,v2,v3,v4,v5,v6,v7,v8,v9,v10,v11,v12,v13,v14,v15,v16,v17,v18,v19,v20,v21,v22,v23,v24,v25,v26,v27,v28,v29,v30,v31,v32,v33,v34,v35,v36,_)=>
bif decide (v1 < v0) then (((d9 v1).bind λx0=>
(dM v36 x0).bind λx1=>
(dM v36 x0).bind λx2=>
(dM v36 x0).bind λx3=>
let x4:=dN x3.2.2.2.2.2.2.2.length;
(dU qr NN (v1,v0,v1,x4,0,v2,v3,v4,v5,v6,v7,v8,v9,v10,v11,v12,v13,v14,v15,v16,v17,v18,v19,v20,v21,v22,v23,v24,v25,v26,v27,v28,v29,v30,v31,v32,v33,v34,v35,v36,())).bind λ(x5,x6,x7,x8,x9,ac,ae,af,ag,ah,ai,aj,ak,am,an,ap,aq,av,ax,ay,az,aA,aB,aD,aE,aF,aG,aH,aI,aJ,aK,aL,aM,aO,aP,aQ,aR,aS,aT,aU,aV,_)=>
(dQ 4 ae af).bind λ(aW,aY,aZ,_)=>
bif (aW==0) then ((dQ 5 aY aZ).bind λ(ba,bc,bd,_)=>
(d9 x5).bind λbf=>
(dM aV bf).bind λbg=>
(dM aV bf).bind λbh=>
let bi:=List.modify aV bf λe=>(ba,e.2);
some (x6,x7,bc,bd,ag,ah,ai,aj,ak,am,an,ap,aq,av,ax,ay,az,aA,aB,aD,aE,aF,aG,aH,aI,aJ,aK,aL,aM,aO,aP,aQ,aR,aS,aT,aU,bi,())) else
some (x6,x7,aY,aZ,ag,ah,ai,aj,ak,am,an,ap,aq,av,ax,ay,az,aA,aB,aD,aE,aF,aG,aH,aI,aJ,aK,aL,aM,aO,aP,aQ,aR,aS,aT,aU,aV,()):Option (T3R)).bind λ(x0,x1,x2,x3,x4,x5,x6,x7,x8,x9,ac,ae,af,ag,ah,ai,aj,ak,am,an,ap,aq,av,ax,ay,az,aA,aB,aD,aE,aF,aG,aH,aI,aJ,aK,aL,_)=>
let aM:=w64 (x1+1);
some (.inl (x0,aM,x2,x3,x4,x5,x6,x7,x8,x9,ac,ae,af,ag,ah,ai,aj,ak,am,an,ap,aq,av,ax,ay,az,aA,aB,aD,aE,aF,aG,aH,aI,aJ,aK,aL,()))) else
some (.inr (v0,v1,false,v2,v3,v4,v5,v6,v7,v8,v9,v10,v11,v12,v13,v14,v15,v16,v17,v18,v19,v20,v21,v22,v23,v24,v25,v26,v27,v28,v29,v30,v31,v32,v33,v34,v35,v36,()))
def mT(a0:List (Int)) (a1:Int):Option (LDIn×LI×LLI×LI×Int×LDCe×LDLn×LDTh×T08):=
(ug a0 a1).bind λ(x0,x1,x2,x3,x4,x5,x6,x7,x8,x9,ac,ae,af,ag,ah,ai,aj,ak,am,an,_)=>
(match ((dQ 3 am an).bind λ(ap,aq,av,_)=>
bif (ap==0) then ((lA x0 x1 x2 x3 x4 x5 x6 x7).bind λ(ax,ay,_)=>
(dM ax 0).bind λaz=>
(dM ax 0).bind λaA=>
(dM ax 0).bind λaB=>
let aD:=dN aB.length;
(dU mw NN (aD,0,aq,av,(),(),(),(),0,(),(),(),x0,x1,x2,x3,x4,x5,x6,x7,x8,x9,ac,ae,af,ag,ah,ai,aj,ak,x3,x4,x5,x6,x7,ax,ay,())).bind λ(aE,aF,aG,aH,aI,aJ,aK,aL,aM,aO,aP,aQ,aR,aS,aT,aU,aV,aW,aY,aZ,ba,bc,bd,bf,bg,bh,bi,bj,bk,bl,bm,bn,bo,bp,bq,bt,bv,bx,_)=>
let bA:=dN bx.length;
(dU mu NN (bA,0,aH,aI,aJ,aK,aL,aM,aO,aP,aQ,aR,aS,aT,aU,aV,aW,aY,aZ,ba,bc,bd,bf,bg,bh,bi,bj,bk,bl,bm,bn,bo,bp,bq,bt,bv,bx,())).bind λ(bB,bC,bD,bE,bF,bG,bH,bI,bJ,bK,bL,bM,bN,bO,bP,bQ,bR,bS,bT,bU,bV,bW,bY,bZ,b8,b9,ca,cd,cf,cg,ch,ci,cj,cl,cn,cq,cr,cu,_)=>
(mK bO bP bQ ci cj cr cu).bind λ(cw,cx,cy,cz,cD,cE,_)=>
bif cE then (some (.inl (bE,bF,bG,bH,bI,bJ,bK,bL,bM,bN,bO,bP,bQ,bR,bS,bT,bU,bV,bW,bY,bZ,b8,b9,ca,cd,cf,cg,ch,cw,cx,cy,cz,cD,()))) else
some (.inr (bE,bF,bG,bH,bI,bJ,bK,bL,bM,bN,bO,bP,bQ,bR,bS,bT,bU,bV,bW,bY,bZ,b8,b9,ca,cd,cf,cg,ch,ci,cj,cl,cn,cq,()))) else
some (.inr (aq,av,(),(),(),(),0,(),(),(),x0,x1,x2,x3,x4,x5,x6,x7,x8,x9,ac,ae,af,ag,ah,ai,aj,ak,x3,x4,x5,x6,x7,())):Option (T3J⊕T3J)) with
| none=>none
| some (.inl (ap,aq,av,ax,ay,az,aA,aB,aD,aE,aF,aG,aH,aI,aJ,aK,aL,aM,aO,aP,aQ,aR,aS,aT,aU,aV,aW,aY,aZ,ba,bc,bd,bf,_))=>
some (aF,aG,aH,aZ,ba,bc,bd,bf,ap,aq,())
| some (.inr (ap,aq,av,ax,ay,az,aA,aB,aD,aE,aF,aG,aH,aI,aJ,aK,aL,aM,aO,aP,aQ,aR,aS,aT,aU,aV,aW,aY,aZ,ba,bc,bd,bf,_))=>
some (aF,aG,aH,aZ,ba,bc,bd,bf,ap,aq,()))
def CG:X.Cfg:=⟨E0,[Dw,gh,rQ,zm,uU],[],[⟨11,0,qE,[(.normal,qS [zaa 0,zaa 2,zaa 3,zaa 4,zaa 5,zaa 6,Uaa 27,Uaa 28] [(2,Xab),(6,Uae),(8,yac),(10,yaf),(12,zac),(14,yae)])]⟩,(lx 8 1 [zaa 0,zaa 2,zaa 3,zaa 4,zaa 5,zaa 6,Uaa 27,Uaa 28] [(2,Xab),(6,Uae),(8,yac),(10,yaf),(12,zac),(14,yae)] 29),⟨26,2,qE,[(.normal,qS [zaa 0,zaa 2,zaa 3,zaa 4,zaa 5,zaa 6,Uaa 8,Uaa 48,Uaa 49,Uaa 58,Uaa 59] [(2,Xab),(6,Uae),(8,yac),(10,yaf),(12,zac),(14,yae)])]⟩,⟨23,3,qS [zaa 0,zaa 2,zaa 3,zaa 4,zaa 5,zaa 6,Uaa 8,Uaa 48,Uaa 49,Uaa 58,Uaa 59] [(2,Xab),(6,Uae),(8,yac),(10,yaf),(12,zac),(14,yae)],[(.exit 4,qS [zaa 0,zaa 2,zaa 3,zaa 4,zaa 5,zaa 6,Uaa 8,Uaa 48,Uaa 49,Uaa 58,Uaa 59,Xaa 60] [(2,Xab),(6,Uae),(8,yac),(10,yaf),(12,zac),(14,yae)])]⟩,⟨19,4,qE,[(.normal,qS [zaa 0,zaa 2,zaa 3,zaa 4,zaa 5,zaa 6,Uaa 48,Uaa 49] [(2,Xab),(6,Uae),(8,yac),(10,yaf),(12,zac),(14,yae)])]⟩,⟨16,5,qS [zaa 0,zaa 2,zaa 3,zaa 4,zaa 5,zaa 6,Uaa 48,Uaa 49] [(2,Xab),(6,Uae),(8,yac),(10,yaf),(12,zac),(14,yae)],[(.exit 2,qS [zaa 0,zaa 2,zaa 3,zaa 4,zaa 5,zaa 6,Uaa 48,Uaa 49,Xaa 50] [(2,Xab),(6,Uae),(8,yac),(10,yaf),(12,zac),(14,yae)])]⟩,⟨3,6,qE,[(.normal,qS [zaa 0,zaa 2,zaa 3,zaa 4,zaa 5] [(2,Xab),(6,Uae),(8,yac),(10,yaf),(12,Zac)]),(.normal,qS [zaa 0,zaa 2,zaa 3,zaa 4,zaa 5] [(2,Xab),(6,Uae),(8,yac),(10,yaf),(12,zac)])]⟩]⟩
def u6:Ctr:=⟨7,117,[.ptr ⟨2,0,[]⟩ [0]],[(2,Xab)],[⟨uL [fk,RI,(yaa RW),RI,CW,fi,fT,gH],[.agg 3,.agg 5],[(2,Xab)]⟩],ap2 mT⟩
theorem Ci:Lk 10 u6:=ls CG (aC Li (aC gO (aC we (aC Gv (aC B9 aN)))))
def iG:T2V->Option (T2V⊕(Int×Int×Int×LLCn×Int×Int×Bool×T1y)):=λ(v0,v1,v2,v3,v4,v5,v6,v7,v8,v9,v10,v11,_)=>
bif decide (v5 < v4) then ((d9 v5).bind λx0=>
(dM v3 x0).bind λx1=>
bif (dY 24 0 x1.length) then let x2:LDCn:=(List.append [] x1);
bif (dY 24 v10.length (List.length [x2])) then let x3:List LDCn:=(List.append v10 [x2]);
let x4:=w64 (v5+1);
some (.inl (v0,v1,v2,v3,v4,x4,v6,v7,v8,v9,x3,v11,())) else none else none) else
some (.inr (v0,v1,v2,v3,v4,v5,false,v6,v7,v8,v9,v10,v11,()))
def iF:T2U->Option (T2U⊕(Int×Int×Int×LDTs×Int×Int×Bool×T1x)):=λ(v0,v1,v2,v3,v4,v5,v6,v7,v8,v9,v10,v11,_)=>
bif decide (v5 < v4) then ((d9 v5).bind λx0=>
(dM v3 x0).bind λx1=>
bif (dY 24 0 x1.2.2.2.2.2.2.2.length) then let x2:LDCn:=(List.append [] x1.2.2.2.2.2.2.2);
let x3:LDTs:=[(x1.1,(x1.2.1,(x1.2.2.1,(x1.2.2.2.1,(x1.2.2.2.2.1,(x1.2.2.2.2.2.1,(x1.2.2.2.2.2.2.1,x2)))))))];
bif (dY 80 v11.length x3.length) then let x4:LDTs:=(List.append v11 x3);
let x5:=w64 (v5+1);
some (.inl (v0,v1,v2,v3,v4,x5,v6,v7,v8,v9,v10,x4,())) else none else none) else
some (.inr (v0,v1,v2,v3,v4,v5,false,v6,v7,v8,v9,v10,v11,()))
def mP(a0:List LDCn) (a1:LDTs) (a2:Int) (a3:Int) (a4:Int):Option (T0b):=
let x0:=dN a0.length;
(dU iG NN (a2,a3,a4,a0,x0,0,a0,a1,(),(),[],(),())).bind λ(x1,x2,x3,x4,x5,x6,x7,x8,x9,ac,ae,af,ag,_)=>
let ah:=dN x9.length;
(dU iF NN (x1,x2,x3,x9,ah,0,x8,x9,ac,ae,af,[],())).bind λ(ai,aj,ak,am,an,ap,aq,av,ax,ay,az,aA,aB,_)=>
let aD:=dN aB.length;
(jk aj aD).bind λ(aE,_)=>
let aF:List (Int):=[(-2),(-1),0,1,4,5,6,7,255,256,1099511627777];
(jk ak 11).bind λ(aG,_)=>
(d9 aG).bind λaH=>
(dM aF aH).bind λaI=>
(dM aF aH).bind λaJ=>
(match ((jk ai 10).bind λ(aK,_)=>
bif (aK==0) then ((d9 aE).bind λaL=>
(dM aB aL).bind λaM=>
(dM aB aL).bind λaO=>
let aP:=List.modify aB aL λe=>(aJ,e.2);
some (.inl (ay,az,aA,aP,()))) else
bif (aK==1) then ((d9 aE).bind λaL=>
(dM aB aL).bind λaM=>
(dM aB aL).bind λaO=>
let aP:=(List.modify aB aL λe=>(e.1,(aJ,e.2.2)));
some (.inl (ay,az,aA,aP,()))) else
bif (aK==2) then ((d9 aE).bind λaL=>
(dM aB aL).bind λaM=>
(dM aB aL).bind λaO=>
let aP:=(List.modify aB aL λe=>(e.1,(e.2.1,(e.2.2.1,(e.2.2.2.1,(aJ,e.2.2.2.2.2))))));
some (.inl (ay,az,aA,aP,()))) else
bif (aK==3) then ((d9 aE).bind λaL=>
(dM aB aL).bind λaM=>
(dM aB aL).bind λaO=>
let aP:=(List.modify aB aL λe=>(e.1,(e.2.1,(aJ,e.2.2.2))));
some (.inl (ay,az,aA,aP,()))) else
bif (aK==4) then ((d9 aE).bind λaL=>
(dM aB aL).bind λaM=>
(dM aB aL).bind λaO=>
(dM aB aL).bind λaP=>
bif (iQ 1 aP.2.2.2.2.2.2.2.length aP.2.2.2.2.2.2.2.length) then (dM aB aL).bind λaQ=>
(d9 aE).bind λaR=>
(dM aB aR).bind λaS=>
(dM aB aL).bind λaT=>
(dM aB aR).bind λaU=>
let aV:=(List.modify aB aR λe=>(e.1,(e.2.1,(e.2.2.1,(e.2.2.2.1,(e.2.2.2.2.1,(e.2.2.2.2.2.1,(e.2.2.2.2.2.2.1,(m8 aT.2.2.2.2.2.2.2 1 (Nat.sub aP.2.2.2.2.2.2.2.length 1))))))))));
some (.inr (.inl (ay,az,aA,aV,()))) else none) else
bif (aK==5) then (bif (iQ 1 aA.length aA.length) then let aL:List LDCn:=(m8 aA 1 (Nat.sub aA.length 1));
some (.inr (.inr (.inl (ay,az,aL,aB,())))) else none) else
bif (aK==6) then ((dM aA 0).bind λaL=>
(dM aA 0).bind λaM=>
let aO:LDCn:=[(0,(0,(0,0)))];
(dM aA 0).bind λaP=>
bif (dY 24 aP.length aO.length) then let aQ:LDCn:=(List.append aP aO);
(dM aA 0).bind λaR=>
(dM aA 0).bind λaS=>
let aT:=List.modify aA 0 λe=>aQ;
some (.inl (ay,az,aT,aB,())) else none) else
bif (aK==7) then ((dM aA 0).bind λaL=>
(dM aA 0).bind λaM=>
(dM aA 0).bind λaO=>
(dM aA 0).bind λaP=>
(dM aA 0).bind λaQ=>
let aR:=dN aQ.length;
(jk aj aR).bind λ(aS,_)=>
(jk ak 4).bind λ(aT,_)=>
let aU:=wk .u8 aT;
(jk ak 6).bind λ(aV,_)=>
let aW:=w64 (aV - 1);
(jk aj 36).bind λ(aY,_)=>
(d9 aS).bind λaZ=>
(dM aA 0).bind λba=>
(dM ba aZ).bind λbc=>
(dM aA 0).bind λbd=>
(dM bd aZ).bind λbf=>
let bg:=(List.modify aA 0 λe=>(List.modify e aZ λe=>(aU,(0,(aW,aY)))));
some (.inl (ay,az,bg,aB,()))) else
bif (aK==8) then (bif (iQ 1 aB.length aB.length) then let aL:LDTs:=(m8 aB 1 (Nat.sub aB.length 1));
some (.inr (.inr (.inr (ay,az,aA,aL,())))) else none) else
bif (aK==9) then ((d9 aE).bind λaL=>
(dM aB aL).bind λaM=>
(dM aB aL).bind λaO=>
(jk ak 5).bind λ(aP,_)=>
let aQ:=w64 (aP - 1);
(jk aj 36).bind λ(aR,_)=>
(dM aB aL).bind λaS=>
(dM aS.2.2.2.2.2.2.2 0).bind λaT=>
(dM aB aL).bind λaU=>
(dM aU.2.2.2.2.2.2.2 0).bind λaV=>
let aW:=(List.modify aB aL λe=>(e.1,(e.2.1,(e.2.2.1,(e.2.2.2.1,(e.2.2.2.2.1,(e.2.2.2.2.2.1,(e.2.2.2.2.2.2.1,(List.modify e.2.2.2.2.2.2.2 0 λe=>(1,(0,(aQ,aR))))))))))));
some (.inl (ay,az,aA,aW,()))) else
some (.inl (ay,az,aA,aB,())):Option (T0T⊕(T0T⊕(T0T⊕T0T)))) with
| none=>none
| some (.inl (aK,aL,aM,aO,_))=>
some (aM,aO,())
| some (.inr (.inl (aK,aL,aM,aO,_)))=>
some (aM,aO,())
| some (.inr (.inr (.inl (aK,aL,aM,aO,_))))=>
some (aM,aO,())
| some (.inr (.inr (.inr (aK,aL,aM,aO,_))))=>
some (aM,aO,()))
def CA:X.Cfg:=⟨E0,[Fl],[(27,(uaa KCn)),(28,(uaa KCn)),(45,yj),(46,yj)],[(lx 4 0 [Uaa 1,Uaa 2,Uaa 3,zaa 4,zaa 8,zaa 9,sP 17 (yaa d8),Uaa 18,Uaa 19] [(10,zab),(18,Zab),(20,uL [(uaa (uaa KCn)),N1])] 20),⟨11,1,qS [Uaa 1,Uaa 2,Uaa 3,zaa 8,zaa 9,sP 32 (yaa gi),Uaa 33,Uaa 34] [(10,zab),(18,Zab),(20,yae)],[(.exit 2,qS [Uaa 1,Uaa 2,Uaa 3,zaa 8,zaa 9,sP 32 (yaa gi),Uaa 33,Uaa 34,Xaa 35] [(10,zab),(18,Zab),(20,yae)])]⟩,⟨19,2,qE,[(.normal,qS [zaa 8,zaa 9] [(18,Zab),(20,yae)]),(.normal,(qS [zaa 8,zaa 9] [(18,Zab),(20,uL [(uaa (uaa KCn)),(uaa gi)])])),(.normal,(qS [zaa 8,zaa 9] [(18,Zab),(20,uL [(yaa d8),(uaa yj)])])),(.normal,(qS [zaa 8,zaa 9] [(18,Zab),(20,uL [(uaa (uaa KCn)),(yaa gi)])]))]⟩]⟩
def uY:Ctr:=⟨9,118,[.agg zab,shU I64,shU I64,shU I64],[],[⟨zab,[.agg 2],[]⟩],ap5 mP⟩
theorem Cd:Lk 3 uY:=ls CA (aC JV aN)
def oB(a0:List (Int)) (a1:Int) (a2:Int):Option (Bool×Unit):=
bif decide (a1>=0) then (let x0:Int:=(dN a0.length);
bif decide (a1 < x0) then (bif decide (a2>=0) then ((d9 a1).bind λx1=>
(dM a0 x1).bind λx2=>
some ((decide (a2 < x2)),())) else
some (false,())) else
some (false,())) else
some (false,())
def A6:X.Cfg:=⟨E0,[],[],[]⟩
def tG:Ctr:=⟨109,119,[shU RI,.agg Uac],[],[⟨yab,[.one],[]⟩],ap3 oB⟩
theorem AN:Lk 1 tG:=ls A6 aN
def kM(a0:List (Int)) (a1:Int) (a2:List (Int)) (a3:Int) (a4:Int):Option (T02):=
(oB a2 a3 a4).bind λ(x0,_)=>
bif (!x0) then (some (0,6,())) else
let x1:=dN a0.length;
bif decide (a3>=x1) then (some (0,6,())) else
(d9 a3).bind λx2=>
(dM a0 x2).bind λx3=>
let x4:=w64 (x3+a4);
some (x4,0,())
def zH:X.Cfg:=⟨E0,[tG],[],[]⟩
def su:Ctr:=⟨84,120,[.agg Uab,shU RI,.agg Uac],[],[⟨Uac,[.one,.one],[]⟩],ap5 kM⟩
theorem zA:Lk 2 su:=ls zH (aC AN aN)
def rk(a0:LDCe) (a1:LDLn) (a2:Int):Option (T0e):=
(bif decide (a2 < 0) then (some (a2,true,a0,a1,0,0,())) else
bif decide (a2>=512) then (some (a2,true,a0,a1,0,0,())) else
let x0:=dN a0.length;
some (a2,(decide (a2>=x0)),a0,a1,0,0,()):Option (Int×Bool×LDCe×LDLn×T02)).bind λ(x0,x1,x2,x3,x4)=>
bif x1 then (some (0,0,false,())) else
let x6:=w64 (Int.tdiv x0 4);
let x7:=Int.tmod x6 4;
(let x8:=dN x3.length;
bif decide (x7 < x8) then ((d9 x7).bind λx9=>
(dM x3 x9).bind λac=>
bif (ac.1==x6) then (let ae:Int:=(Int.tmod x0 4);
(d9 x7).bind λaf=>
(dM x3 af).bind λag=>
let ah:=dN ag.2.2.length;
some (x0,x7,(decide (ae < ah)),x2,x3,x4)) else
some (x0,x7,false,x2,x3,x4)) else
some (x0,x7,false,x2,x3,x4):Option (Int×Int×Bool×LDCe×LDLn×T02)).bind λ(x8,x9,ac,ae,af,ag,ah,_)=>
bif ac then ((d9 x9).bind λai=>
(dM af ai).bind λaj=>
let ak:=Int.tmod x8 4;
(d9 ak).bind λam=>
(dM aj.2.2 am).bind λan=>
some (an.1,an.2,true,())) else
(d9 x8).bind λai=>
(dM ae ai).bind λaj=>
some (aj.1,aj.2,true,())
def IO:X.Cfg:=⟨E0,[],[],[⟨2,0,qE,[(.normal,qS [Uaa 1,zaa 2,zaa 4,Xaa 20] [(6,uae),(10,uac)])]⟩,⟨7,1,qE,[(.normal,qS [Uaa 1,zaa 2,zaa 4,Uaa 7,Xaa 52] [(6,uae),(10,uac)])]⟩]⟩
def BK:Ctr:=⟨85,121,[.agg uae,shU I64],[],[⟨uL [CB,CW,.bool],[.agg 2,.one],[]⟩],ap3 rk⟩
theorem Ix:Lk 1 BK:=ls IO aN
def fa:T2o->Option (T2o⊕(T0d⊕T2D)):=λ(v0,v1,v2,v3,v4,v5)=>
bif decide (v4 < v3) then ((d9 v4).bind λx0=>
(dM v2 x0).bind λx1=>
(let x2:=dN v0.length;
bif decide (v4 < x2) then (bif decide (v1>=x1) then (let x3:Int:=(w64 (v1 - x1));
(d9 v4).bind λx4=>
(dM v0 x4).bind λx5=>
some (v0,v1,v4,x1,v2,v3,v4,(decide (x3 < x5)),v5)) else
some (v0,v1,v4,x1,v2,v3,v4,false,v5)) else
some (v0,v1,v4,x1,v2,v3,v4,false,v5):Option (T2X)).bind λ(x2,x3,x4,x5,x6,x7,x8,x9,ac)=>
bif x9 then (let ah:Int:=(w64 (x3 - x5));
some (.inr (.inl (true,x4,ah,())))) else
let ah:=w64 (x8+1);
some (.inl (x2,x3,x6,x7,ah,ac))) else
some (.inr (.inr (v0,v1,v2,v3,v4,false,v5)))
def kL(a0:List (Int)) (a1:Int) (a2:List (Int)) (a3:Int):Option (T0e):=
let x0:=dN a0.length;
(match dU fa NN (a2,a3,a0,x0,0,a0,a1,0,0,()) with
| none=>none
| some (.inl (x1,x2,x3,_))=>
some (x2,x3,x1,())
| some (.inr (x1,x2,x3,_))=>
some (0,0,false,()))
def zG:X.Cfg:=⟨E0,[],[],[⟨8,0,qE,[(.normal,qS [sP 1 RI,Uaa 2,zaa 6,Uaa 8,Uaa 9,sP 11 RI,Uaa 12,Uaa 13,Xaa 36] [(8,Uab),(14,Uac)])]⟩,⟨3,1,qS [sP 1 RI,Uaa 2,zaa 6,sP 11 RI,Uaa 12,Uaa 13] [(8,Uab),(14,Uac)],[(.ret,qS [zaa 6,Xaa 7] [(14,Uac)]),(.exit 0,qS [sP 1 RI,Uaa 2,zaa 6,sP 11 RI,Uaa 12,Uaa 13,Xaa 14] [(8,Uab),(14,Uac)])]⟩]⟩
def sr:Ctr:=⟨86,122,[.agg Uab,shU RI,shU I64],[],[⟨uai,[.agg 2,.one],[]⟩],ap4 kL⟩
theorem zy:Lk 1 sr:=ls zG aN
def ki(a0:List (Int)) (a1:Int) (a2:List (Int)) (a3:Int) (a4:Int):Option (T0y):=
bif (a3==2) then (let x0:Int:=(wk .u16 (a4 - a1));
some (a3,x0,0,0,())) else
bif (a3==1) then (let x0:Int:=(wk .i64 a4);
(kL a0 a1 a2 x0).bind λ(x1,x2,x3,_)=>
(bif (!x3) then (let x4:Int:=(wk .i64 a4);
some (a3,a4,0,0,0,0,(-1),x4,())) else
some (a3,a4,0,0,0,0,x1,x2,()):Option (T1X)).bind λ(x4,x5,x6,x7,x8,x9,ac)=>
some (x4,0,ac)) else
some (a3,a4,0,0,())
def Cz:X.Cfg:=⟨E0,[sr],[],[⟨7,0,qE,[(.normal,qS [zaa 5,zaa 6,zaa 7] [(12,uac),(14,Uaf),(16,Uac)])]⟩]⟩
def qg:Ctr:=⟨34,123,[.agg Uab,shU RI,.agg uac],[],[⟨Uaf,[.agg 4],[]⟩],ap5 ki⟩
theorem uJ:Lk 2 qg:=ls Cz (aC zy aN)
def ib:T33->Option (T33⊕T35):=λ(v0,v1,v2,v3,v4,v5,v6,v7,v8,v9,v10,v11,v12,_)=>
bif decide (v6 < v5) then ((kM v9 v10 v0 v1 v6).bind λ(x0,x1,_)=>
(rk v7 v8 x0).bind λ(x2,x3,x4,_)=>
(ki v9 v10 v0 x2 x3).bind λ(x5,x6,x7,x8,_)=>
let x9:LDCn:=[(x5,(x6,(x7,x8)))];
bif (dY 24 v12.length x9.length) then let ac:LDCn:=(List.append v12 x9);
let ae:=w64 (v6+1);
some (.inl (v0,v1,v2,v3,v4,v5,ae,v7,v8,v9,v10,v11,ac,())) else none) else
some (.inr (v0,v1,v2,v3,v4,v5,v6,false,v7,v8,v9,v10,v11,v12,()))
def ia:T2p->Option (T2p⊕T2E):=λ(v0,v1,v2,v3,v4,v5,v6,v7,v8,_)=>
bif decide (v3 < v2) then ((d9 v3).bind λx0=>
(dM v1 x0).bind λx1=>
(dU ib NN (v0,v3,v1,v2,v3,x1,0,v4,v5,v6,v7,v8,[],())).bind λ(x2,x3,x4,x5,x6,x7,x8,x9,ac,ae,af,ag,ah,ai,_)=>
bif (dY 24 ah.length (List.length [ai])) then let aj:List LDCn:=(List.append ah [ai]);
let ak:=w64 (x6+1);
some (.inl (x2,x4,x5,ak,ac,ae,af,ag,aj,())) else none) else
some (.inr (v0,v1,v2,v3,false,v4,v5,v6,v7,v8,()))
def lL(a0:LDCe) (a1:LDLn) (a2:List (Int)) (a3:Int) (a4:List (Int)):Option (LLCn×Unit):=
let x0:=dN a4.length;
(dU ia NN (a4,a4,x0,0,a0,a1,a2,a3,[],())).bind λ(x1,x2,x3,x4,x5,x6,x7,x8,x9,ac,_)=>
some (ac,())
def Bh:X.Cfg:=⟨E0,[su,BK,qg],[(52,(uaa KCn)),(53,(uaa KCn))],[⟨12,0,qS [sP 2 RI,zaa 3,zaa 4,Zaa 7 17,Uaa 8,Zaa 10 23,sP 16 RI,Uaa 17,Uaa 18,Uaa 23,Uaa 24] [(8,uae),(10,Uab),(17,Uah),(23,uag)],[(.exit 2,qS [sP 2 RI,zaa 3,zaa 4,Zaa 7 17,Uaa 8,Zaa 10 23,sP 16 RI,Uaa 17,Uaa 18,Uaa 23,Uaa 24,Xaa 25] [(8,uae),(10,Uab),(17,Uah),(23,uag)])]⟩,(lx 4 1 [sP 2 RI,zaa 3,zaa 4,Zaa 7 17,sP 16 RI,Uaa 17,Uaa 18] [(8,uae),(10,Uab),(17,Uah)] 19)]⟩
def tZ:Ctr:=⟨33,124,[.agg uae,.agg Uab,shU RI],[],[⟨Uah,[.one],[]⟩],ap5 lL⟩
theorem AZ:Lk 3 tZ:=ls Bh (aC zA (aC Ix (aC uJ aN)))
def gk:T3K->Option (T3K⊕T3N):=λ(v0,v1,v2,v3,v4,v5,v6,v7,v8,v9,v10,v11,v12,v13,v14,v15,v16,v17,v18,v19,v20,v21,v22,v23,v24,v25,v26,v27,v28,v29,v30,v31,v32,v33,_)=>
bif decide (v5 < v4) then ((d9 v5).bind λx0=>
(dM v3 x0).bind λx1=>
(ki v9 v10 v7 x1.1 x1.2).bind λ(x2,x3,x4,x5,_)=>
let x6:LDCn:=[(x2,(x3,(x4,x5)))];
bif (dY 24 v33.length x6.length) then let x7:LDCn:=(List.append v33 x6);
let x8:=w64 (v5+1);
some (.inl (v0,v1,v2,v3,v4,x8,v6,v7,v8,v9,v10,v11,v12,v13,v14,v15,v16,v17,v18,v19,v20,v21,v22,v23,v24,v25,v26,v27,v28,v29,v30,v31,v32,x7,())) else none) else
some (.inr (v0,v1,v2,v3,v4,v5,false,v6,v7,v8,v9,v10,v11,v12,v13,v14,v15,v16,v17,v18,v19,v20,v21,v22,v23,v24,v25,v26,v27,v28,v29,v30,v31,v32,v33,()))
def gj:T38->Option (T38⊕T3d):=λ(v0,v1,v2,v3,v4,v5,v6,v7,v8,v9,v10,v11,v12,v13,v14,_)=>
bif decide (v2 < v1) then ((d9 v2).bind λx0=>
(dM v0 x0).bind λx1=>
let x2:=dN x1.2.1.length;
(dU gk NN (v0,v1,v2,x1.2.1,x2,0,v3,v4,v5,v6,v7,v8,v9,v10,v11,v12,v13,v14,x1.1,x1.2.1,x1.2.2.1,x1.2.2.2.1,x1.2.2.2.2.1,x1.2.2.2.2.2.1,x1.2.2.2.2.2.2.1,x1.2.2.2.2.2.2.2,x1.1,x1.2.2.1,x1.2.2.2.1,x1.2.2.2.2.1,x1.2.2.2.2.2.1,x1.2.2.2.2.2.2.1,x1.2.2.2.2.2.2.2,[],())).bind λ(x3,x4,x5,x6,x7,x8,x9,ac,ae,af,ag,ah,ai,aj,ak,am,an,ap,aq,av,ax,ay,az,aA,aB,aD,aE,aF,aG,aH,aI,aJ,aK,aL,aM,_)=>
let aO:LDTs:=[(aF,(aG,(aH,(aI,(aJ,(aK,(aL,aM)))))))];
bif (dY 80 aq.length aO.length) then let aP:LDTs:=(List.append aq aO);
let aQ:=w64 (x5+1);
some (.inl (x3,x4,aQ,ac,ae,af,ag,ah,ai,aj,ak,am,an,ap,aP,())) else none) else
some (.inr (v0,v1,v2,false,v3,v4,v5,v6,v7,v8,v9,v10,v11,v12,v13,v14,()))
def jV(a0:LDIn) (a1:List (Int)) (a2:List LI) (a3:List (Int)) (a4:Int) (a5:LDCe) (a6:LDLn) (a7:LDTh):Option (T0b):=
(lL a5 a6 a3 a4 a1).bind λ(x0,_)=>
let x1:=dN a7.length;
(dU gj NN (a7,x1,0,a0,a1,a2,a3,a4,a5,a6,a7,(),(),x0,[],())).bind λ(x2,x3,x4,x5,x6,x7,x8,x9,ac,ae,af,ag,ah,ai,aj)=>
some (aj)
def xZ:X.Cfg:=⟨E0,[tZ,qg],[(63,yj),(64,yj)],[⟨12,0,qS [zaa 2,zaa 3,zaa 4,zaa 5,zaa 8,sP 20 gH,Uaa 21,Uaa 22,sP 42 fi,Uaa 43,Uaa 44] [(6,uab),(8,zac),(10,Zab),(12,yae),(16,Uad),(18,Zai)],[(.exit 2,qS [zaa 2,zaa 3,zaa 4,zaa 5,zaa 8,sP 20 gH,Uaa 21,Uaa 22,sP 42 fi,Uaa 43,Uaa 44,Xaa 45] [(6,uab),(8,zac),(10,Zab),(12,yae),(16,Uad),(18,Zai)])]⟩,(lx 4 1 [zaa 2,zaa 3,zaa 4,zaa 5,sP 20 gH,Uaa 21,Uaa 22] [(6,uab),(8,zac),(10,Zab),(12,yae)] 23)]⟩
def qV:Ctr:=⟨11,125,[.agg uab,.agg zac],[],[⟨yae,[.agg 2],[]⟩],ap8 jV⟩
theorem xR:Lk 4 qV:=ls xZ (aC AZ (aC uJ aN))
def uw:T0H->Option (T0H⊕((Bool×Unit)⊕(LDCn×T0F))):=λ(v0,v1,v2,v3,_)=>
bif decide (v3 < v2) then ((d9 v3).bind λx0=>
(dM v0 x0).bind λx1=>
(d9 v3).bind λx2=>
(dM v1 x2).bind λx3=>
let x4:Bool:=(!((x1.1==x3.1) && ((x1.2.1==x3.2.1) && ((x1.2.2.1==x3.2.2.1) && ((x1.2.2.2==x3.2.2.2) && true)))));
bif x4 then (some (.inr (.inl (false,())))) else
let x5:=w64 (v3+1);
some (.inl (v0,v1,v2,x5,()))) else
some (.inr (.inr (v0,v1,v2,v3,false,())))
def fR(a0:LDCn) (a1:LDCn):Option (Bool×Unit):=
let x0:=dN a0.length;
let x1:=dN a1.length;
bif (x0 != x1) then (some (false,())) else
let x2:=dN a0.length;
(match dU uw NN (a0,a1,x2,0,()) with
| none=>none
| some (.inl (x3,_))=>
some (x3,())
| some (.inr (x3,_))=>
some (true,()))
def xX:X.Cfg:=⟨E0,[],[],[⟨6,0,qS [sP 0 d8,sP 1 d8,Uaa 12,Uaa 13] [],[(.ret,qS [Xaa 4] []),(.exit 0,qS [sP 0 d8,sP 1 d8,Uaa 12,Uaa 13,Xaa 14] [])]⟩]⟩
def mD:Ctr:=⟨32,126,uL [d8,d8],[],[⟨yab,[.one],[]⟩],ap2 fR⟩
theorem qJ:Lk 1 mD:=ls xX aN
def iz:T1j->Option (T1j⊕((Bool×Unit)⊕T1B)):=λ(v0,v1,v2,v3,v4,v5,_)=>
bif decide (v1 < v0) then ((d9 v1).bind λx0=>
(dM v2 x0).bind λx1=>
(d9 v1).bind λx2=>
(dM v4 x2).bind λx3=>
(fR x1 x3).bind λ(x4,_)=>
bif (!x4) then (some (.inr (.inl (false,())))) else
let x5:=w64 (v1+1);
some (.inl (v0,x5,v2,v3,v4,v5,()))) else
some (.inr (.inr (v0,v1,false,v2,v3,v4,v5,())))
def iy:T1Q->Option (T1Q⊕((Bool×Unit)⊕T27)):=λ(v0,v1,v2,v3,v4,v5,v6,_)=>
bif decide (v2 < v1) then ((d9 v2).bind λx0=>
(dM v0 x0).bind λx1=>
(d9 v2).bind λx2=>
(dM v6 x2).bind λx3=>
(bif (x1.1 != x3.1) then (some (v0,v1,v2,true,v3,v4,v5,v6,())) else
bif (x1.2.1 != x3.2.1) then (some (v0,v1,v2,true,v3,v4,v5,v6,())) else
bif (x1.2.2.1 != x3.2.2.1) then (some (v0,v1,v2,true,v3,v4,v5,v6,())) else
bif (x1.2.2.2.1 != x3.2.2.2.1) then (some (v0,v1,v2,true,v3,v4,v5,v6,())) else
bif (x1.2.2.2.2.1 != x3.2.2.2.2.1) then (some (v0,v1,v2,true,v3,v4,v5,v6,())) else
bif (x1.2.2.2.2.2.1 != x3.2.2.2.2.2.1) then (some (v0,v1,v2,true,v3,v4,v5,v6,())) else
bif (x1.2.2.2.2.2.2.1 != x3.2.2.2.2.2.2.1) then (some (v0,v1,v2,true,v3,v4,v5,v6,())) else
(fR x1.2.2.2.2.2.2.2 x3.2.2.2.2.2.2.2).bind λ(x4,_)=>
some (v0,v1,v2,(!x4),v3,v4,v5,v6,()):Option (T27)).bind λ(x4,x5,x6,x7,x8)=>
bif x7 then (some (.inr (.inl (false,())))) else
let af:=w64 (x6+1);
some (.inl (x4,x5,af,x8))) else
some (.inr (.inr (v0,v1,v2,false,v3,v4,v5,v6,())))
def kX(a0:List LDCn) (a1:LDTs) (a2:List LDCn) (a3:LDTs):Option (Bool×Unit):=
let x0:=dN a0.length;
let x1:=dN a2.length;
bif (x0 != x1) then (some (false,())) else
let x2:=dN a1.length;
let x3:=dN a3.length;
bif (x2 != x3) then (some (false,())) else
let x4:=dN a0.length;
(match dU iz NN (x4,0,a0,a1,a2,a3,()) with
| none=>none
| some (.inl (x5,_))=>
some (x5,())
| some (.inr (x5,x6,x7,x8,x9,ac))=>
let af:=dN x9.length;
(match dU iy NN (x9,af,0,x8,x9,ac) with
| none=>none
| some (.inl (ag,_))=>
some (ag,())
| some (.inr (ag,_))=>
some (true,())))
def GQ:X.Cfg:=⟨E0,[mD],[],[⟨6,0,qS [zaa 2,zaa 3,Uaa 27,Uaa 28] [(6,zab),(8,zab)],[(.ret,qS [Xaa 4] []),(.exit 0,qS [zaa 2,zaa 3,Uaa 27,Uaa 28,Xaa 29] [(6,zab),(8,zab)])]⟩,⟨21,1,qE,[(.normal,qS [zaa 3,sP 45 (yaa gi),Uaa 46,Uaa 47,Xaa 111] [(6,zab),(8,zab)])]⟩,⟨15,2,qS [zaa 3,sP 45 (yaa gi),Uaa 46,Uaa 47] [(6,zab),(8,zab)],[(.ret,qS [Xaa 4] []),(.exit 2,qS [zaa 3,sP 45 (yaa gi),Uaa 46,Uaa 47,Xaa 48] [(6,zab),(8,zab)])]⟩]⟩
def yZ:Ctr:=⟨10,127,[.agg zab,.agg zab],[],[⟨yab,[.one],[]⟩],ap4 kX⟩
theorem Gg:Lk 2 yZ:=ls GQ (aC qJ aN)
def mQ:Option (T24):=
bif (uy 8 8 2) then let x0:LDCe:=(List.replicate 8 (0,0));
some (0,x0,0,0,(-1),(-1),0,0,()) else none
def CD:X.Cfg:=⟨E0,[],[],[]⟩
def u3:Ctr:=⟨104,128,[],[],[⟨uah,[.agg 8],[]⟩],λh=>mQ⟩
theorem Cf:Lk 1 u3:=ls CD aN
def gZ(a0:Int) (a1:Int) (a2:Int) (a3:Int) (a4:Int) (a5:Int) (a6:Int) (a7:LDCn):Option (T24):=
(mQ).bind λ(x0,x1,_)=>
some (a0,x1,a1,a2,a3,a4,a5,a6,())
def zI:X.Cfg:=⟨E0,[u3],[],[]⟩
def nJ:Ctr:=⟨51,129,[.agg Xah],[],[⟨uah,[.agg 8],[]⟩],ap8 gZ⟩
theorem sn:Lk 2 nJ:=ls zI (aC Cf aN)
def fC(a0:Int) (a1:Int) (a2:Int):Option (Bool×Unit):=
bif decide (a0>=a1) then (some ((decide (a0<=a2)),())) else
some (false,())
def zF:X.Cfg:=⟨E0,[],[],[]⟩
def sq:Ctr:=⟨134,130,Zaj,[],[⟨yab,[.one],[]⟩],ap3 fC⟩
theorem zx:Lk 1 sq:=ls zF aN
def yn(a0:Int) (a1:Int):Option (Bool×Unit):=
some ((decide (a0<=2)),())
def Gx:X.Cfg:=⟨E0,[],[],[]⟩
def yO:Ctr:=⟨137,131,[.agg uac],[],[⟨yab,[.one],[]⟩],ap2 yn⟩
theorem F4:Lk 1 yO:=ls Gx aN
def sc(a0:Int) (a1:Int):Option (Bool×Unit):=
(yn a0 a1).bind λ(x0,_)=>
some ((!x0),())
def zE:X.Cfg:=⟨E0,[yO],[],[]⟩
def so:Ctr:=⟨136,132,[.agg uac],[],[⟨yab,[.one],[]⟩],ap2 sc⟩
theorem zw:Lk 2 so:=ls zE (aC F4 aN)
def o9:T0k->Option (T0k⊕((Int×Unit)⊕T0E)):=λ(v0,v1,v2,_)=>
bif decide (v2 < v1) then ((d9 v2).bind λx0=>
(dM v0 x0).bind λx1=>
(sc x1.1 x1.2).bind λ(x2,_)=>
bif x2 then (some (.inr (.inl (v2,())))) else
let x3:=w64 (v2+1);
some (.inl (v0,v1,x3,()))) else
some (.inr (.inr (v0,v1,v2,false,())))
def lm(a0:LDCe):Option (Int×Unit):=
let x0:=dN a0.length;
(match dU o9 NN (a0,x0,0,()) with
| none=>none
| some (.inl (x1,_))=>
some (x1,())
| some (.inr (x1,_))=>
some ((-1),()))
def rF:X.Cfg:=⟨E0,[so],[],[⟨3,0,(qS [sP 0 fi,(1,.fn 136 []),Uaa 7,Uaa 8] []),[(.ret,qS [Uaa 4] []),(.exit 0,(qS [sP 0 fi,(1,.fn 136 []),Uaa 7,Uaa 8,Xaa 9] []))]⟩]⟩
def lZ:Ctr:=⟨168,133,[shU fi,.fn 136 []],[],[⟨Xac,[.one],[]⟩],ap1 lm⟩
theorem rv:Lk 3 lZ:=ls rF (aC zw aN)
def gV(a0:LDCe):Option (Bool×Unit):=
(lm a0).bind λ(x0,_)=>
some ((decide (x0>=0)),())
def pm:X.Cfg:=⟨E0,[lZ],[],[]⟩
def j3:Ctr:=⟨135,134,[shU fi,.fn 136 []],[],[⟨yab,[.one],[]⟩],ap1 gV⟩
theorem pe:Lk 4 j3:=ls pm (aC rv aN)
def p8(a0:Int) (a1:LDCe) (a2:Int) (a3:Int) (a4:Int) (a5:Int) (a6:Int) (a7:Int):Option (Bool×Unit):=
(fC a0 0 4).bind λ(x0,_)=>
bif x0 then (let x1:Int:=(dN a1.length);
bif (x1==8) then ((gV a1).bind λ(x2,_)=>
bif (!x2) then ((fC a2 0 255).bind λ(x3,_)=>
bif x3 then ((fC a3 0 1099511627776).bind λ(x4,_)=>
bif x4 then ((fC a4 (-1) 255).bind λ(x5,_)=>
bif x5 then ((fC a5 (-1) 255).bind λ(x6,_)=>
bif x6 then ((fC a6 0 6).bind λ(x7,_)=>
some (x7,())) else
some (false,())) else
some (false,())) else
some (false,())) else
some (false,())) else
some (false,())) else
some (false,())) else
some (false,())
def Cj:X.Cfg:=⟨E0,[sq,j3],[],[]⟩
def uN:Ctr:=⟨89,135,[.agg Uad],[],[⟨yab,[.one],[]⟩],ap8 p8⟩
theorem B2:Lk 5 uN:=ls Cj (aC zx (aC pe aN))
def mG(a0:Int) (a1:Int) (a2:Int) (a3:Int):Option (Bool×Unit):=
bif (a0==0) then (bif (a2==0) then (some ((a3==0),())) else
some (false,())) else
bif (a0==2) then (bif (a2==0) then (some ((a3==0),())) else
some (false,())) else
bif (a0==1) then ((bif (a2==(-1)) then (bif decide (a3>=0) then (some ((decide (a3<=65535)),a0,a1,a2,a3,())) else
some (false,a0,a1,a2,a3,())) else
some (false,a0,a1,a2,a3,()):Option (T0V)).bind λ(x0,x1,x2,x3,x4,_)=>
bif (x2==0) then (bif x0 then (some (true,())) else
bif decide (x3>=0) then (bif decide (x3 < 4) then (bif decide (x4>=0) then (some ((decide (x4 < 32)),())) else
some (false,())) else
some (false,())) else
some (false,())) else
some (false,())) else
some (false,())
def Ck:X.Cfg:=⟨E0,[],[],[⟨7,0,qE,[(.normal,qS [zaa 1,Xaa 3] [(4,Uaf)])]⟩]⟩
def uO:Ctr:=⟨92,136,[.agg Uaf],[],[⟨yab,[.one],[]⟩],ap4 mG⟩
theorem B3:Lk 1 uO:=ls Ck aN
def ms(a0:Int) (a1:Int) (a2:Int) (a3:Int):Option (Bool×Unit):=
(mG a0 a1 a2 a3).bind λ(x0,_)=>
some ((!x0),())
def xV:X.Cfg:=⟨E0,[uO],[],[]⟩
def qT:Ctr:=⟨91,137,[.agg Uaf],[],[⟨yab,[.one],[]⟩],ap4 ms⟩
theorem xP:Lk 2 qT:=ls xV (aC B3 aN)
def gI:T0l->Option (T0l⊕((Int×Unit)⊕T0F)):=λ(v0,v1,v2,_)=>
bif decide (v2 < v1) then ((d9 v2).bind λx0=>
(dM v0 x0).bind λx1=>
(ms x1.1 x1.2.1 x1.2.2.1 x1.2.2.2).bind λ(x2,_)=>
bif x2 then (some (.inr (.inl (v2,())))) else
let x3:=w64 (v2+1);
some (.inl (v0,v1,x3,()))) else
some (.inr (.inr (v0,v1,v2,false,())))
def f7(a0:LDCn):Option (Int×Unit):=
let x0:=dN a0.length;
(match dU gI NN (a0,x0,0,()) with
| none=>none
| some (.inl (x1,_))=>
some (x1,())
| some (.inr (x1,_))=>
some ((-1),()))
def qL:X.Cfg:=⟨E0,[qT],[],[⟨3,0,(qS [sP 0 d8,(1,.fn 91 []),Uaa 7,Uaa 8] []),[(.ret,qS [Uaa 4] []),(.exit 0,(qS [sP 0 d8,(1,.fn 91 []),Uaa 7,Uaa 8,Xaa 9] []))]⟩]⟩
def la:Ctr:=⟨138,138,[shU d8,.fn 91 []],[],[⟨Xac,[.one],[]⟩],ap1 f7⟩
theorem qG:Lk 3 la:=ls qL (aC xP aN)
def gJ(a0:LDCn):Option (Bool×Unit):=
(f7 a0).bind λ(x0,_)=>
some ((decide (x0>=0)),())
def oS:X.Cfg:=⟨E0,[la],[],[]⟩
def jK:Ctr:=⟨90,139,[shU d8,.fn 91 []],[],[⟨yab,[.one],[]⟩],ap1 gJ⟩
theorem oQ:Lk 4 jK:=ls oS (aC qG aN)
def fU(a0:LDCn) (a1:Int):Option (Bool×Unit):=
let x0:=dN a0.length;
bif decide (x0<=a1) then ((gJ a0).bind λ(x1,_)=>
some ((!x1),())) else
some (false,())
def A5:X.Cfg:=⟨E0,[jK],[],[]⟩
def jL:Ctr:=⟨36,140,uL [d8,I64],[],[⟨yab,[.one],[]⟩],ap2 fU⟩
theorem lR:Lk 5 jL:=ls A5 (aC oQ aN)
def fZ(a0:Int) (a1:Int) (a2:Int) (a3:Int) (a4:Int) (a5:Int) (a6:Int) (a7:LDCn):Option (Bool×Unit):=
(gZ a0 a1 a2 a3 a4 a5 a6 a7).bind λ(x0,x1,x2,x3,x4,x5,x6,x7,_)=>
(p8 x0 x1 x2 x3 x4 x5 x6 x7).bind λ(x8,_)=>
bif (!x8) then (some (true,())) else
let x9:=dN a7.length;
bif (x9 != 8) then (some (true,())) else
(fU a7 8).bind λ(ac,_)=>
some ((!ac),())
def tA:X.Cfg:=⟨E0,[nJ,uN,jL],[],[]⟩
def nv:Ctr:=⟨88,141,[.agg Xah],[],[⟨yab,[.one],[]⟩],ap8 fZ⟩
theorem tp:Lk 6 nv:=ls tA (aC sn (aC B2 (aC lR aN)))
def eY:T0n->Option (T0n⊕((Int×Unit)⊕T0J)):=λ(v0,v1,v2,_)=>
bif decide (v2 < v1) then ((d9 v2).bind λx0=>
(dM v0 x0).bind λx1=>
(fZ x1.1 x1.2.1 x1.2.2.1 x1.2.2.2.1 x1.2.2.2.2.1 x1.2.2.2.2.2.1 x1.2.2.2.2.2.2.1 x1.2.2.2.2.2.2.2).bind λ(x2,_)=>
bif x2 then (some (.inr (.inl (v2,())))) else
let x3:=w64 (v2+1);
some (.inl (v0,v1,x3,()))) else
some (.inr (.inr (v0,v1,v2,false,())))
def iU(a0:LDTs):Option (Int×Unit):=
let x0:=dN a0.length;
(match dU eY NN (a0,x0,0,()) with
| none=>none
| some (.inl (x1,_))=>
some (x1,())
| some (.inr (x1,_))=>
some ((-1),()))
def rE:X.Cfg:=⟨E0,[nv],[],[⟨3,0,(qS [sP 0 (yaa gi),(1,.fn 88 []),Uaa 7,Uaa 8] []),[(.ret,qS [Uaa 4] []),(.exit 0,(qS [sP 0 (yaa gi),(1,.fn 88 []),Uaa 7,Uaa 8,Xaa 9] []))]⟩]⟩
def lY:Ctr:=⟨133,142,[shU (yaa gi),.fn 88 []],[],[⟨Xac,[.one],[]⟩],ap1 iU⟩
theorem ru:Lk 7 lY:=ls rE (aC tp aN)
def gU(a0:LDTs):Option (Bool×Unit):=
(iU a0).bind λ(x0,_)=>
some ((decide (x0>=0)),())
def pj:X.Cfg:=⟨E0,[lY],[],[]⟩
def j0:Ctr:=⟨87,143,[shU (yaa gi),.fn 88 []],[],[⟨yab,[.one],[]⟩],ap1 gU⟩
theorem pd:Lk 8 j0:=ls pj (aC ru aN)
def gM(a0:LDTs):Option (Bool×Unit):=
let x0:=dN a0.length;
bif (x0==4) then ((gU a0).bind λ(x1,_)=>
some ((!x1),())) else
some (false,())
def vp:X.Cfg:=⟨E0,[j0],[],[]⟩
def kT:Ctr:=⟨35,144,uL [(yaa gi)],[],[⟨yab,[.one],[]⟩],ap1 gM⟩
theorem oR:Lk 9 kT:=ls vp (aC pd aN)
def kj:T0g->Option (T0g⊕T0w):=λ(v0,v1,v2,_)=>
bif decide (v0>=0) then (let x0:Int:=(w64 (8*v0));
(d9 x0).bind λx1=>
let x2:Int:=(shR .shr .i64 v1 x1);
let x3:=wk .u8 x2;
bif (dY 1 v2.length (List.length [x3])) then let x4:List (Int):=(List.append v2 [x3]);
let x5:=w64 (v0 - 1);
some (.inl (x5,v1,x4,())) else none) else
some (.inr (v0,v1,false,v2,()))
def ge(a0:Int) (a1:Int) (a2:List (Int)):Option (LI×Unit):=
let x0:=w64 (a0 - 1);
(dU kj NN (x0,a1,a2,())).bind λ(x1,x2,x3,x4,_)=>
some (x4,())
def IP:X.Cfg:=⟨E0,[],[],[(lx 3 0 [Zaa 0 3,Uaa 1,Uaa 2] [(3,Xad)] 10)]⟩
def rY:Ctr:=⟨38,145,[.pk ⟨3,0,[]⟩ [0,0],shU I64,shU I64],[(3,Xad)],[⟨Xad,[.one],[(3,[])]⟩],ap3 ge⟩
theorem vl:Lk 1 rY:=ls IP aN
def pJ(a0:Int) (a1:Int) (a2:Int) (a3:Int) (a4:List (Int)):Option (LI×Unit):=
bif (a0==1) then (let x0:Int:=(w64 (a2+1));
let x1:=wk .u8 x0;
let x2:List (Int):=[a0,x1];
bif (dY 1 a4.length x2.length) then let x3:List (Int):=(List.append a4 x2);
(ge 2 a3 x3).bind λ(x4,_)=>
some (x4,()) else none) else
let x0:List (Int):=[a0,0];
bif (dY 1 a4.length x0.length) then let x1:List (Int):=(List.append a4 x0);
let x2:=wk .i64 a1;
(ge 2 x2 x1).bind λ(x3,_)=>
some (x3,()) else none
def Hg:X.Cfg:=⟨E0,[rY],[],[]⟩
def zi:Ctr:=⟨93,146,[.pk ⟨3,0,[]⟩ [0,0],.agg Uaf],[(3,Xad)],[⟨Xad,[.one],[(3,[])]⟩],ap5 pJ⟩
theorem Gs:Lk 2 zi:=ls Hg (aC vl aN)
def oJ:T0G->Option (T0G⊕(LDCn×T0w)):=λ(v0,v1,v2,v3,_)=>
bif decide (v2 < v1) then ((d9 v2).bind λx0=>
(dM v0 x0).bind λx1=>
(pJ x1.1 x1.2.1 x1.2.2.1 x1.2.2.2 v3).bind λ(x2,_)=>
let x3:=w64 (v2+1);
some (.inl (v0,v1,x3,x2,()))) else
some (.inr (v0,v1,v2,false,v3,()))
def jE(a0:LDCn) (a1:List (Int)):Option (LI×Unit):=
let x0:=dN a0.length;
let x1:=wk .u8 x0;
bif (dY 1 a1.length (List.length [x1])) then let x2:List (Int):=(List.append a1 [x1]);
let x3:=dN a0.length;
(dU oJ NN (a0,x3,0,x2,())).bind λ(x4,x5,x6,x7,x8,_)=>
some (x8,()) else none
def Hf:X.Cfg:=⟨E0,[zi],[],[(lx 4 0 [Zaa 0 3,sP 13 d8,Uaa 14,Uaa 15] [(3,Xad)] 16)]⟩
def tY:Ctr:=⟨37,147,[.pk ⟨3,0,[]⟩ [0,0],shU d8],[(3,Xad)],[⟨Xad,[.one],[(3,[])]⟩],ap2 jE⟩
theorem yH:Lk 3 tY:=ls Hf (aC Gs aN)
def fe:T1v->Option (T1v⊕((Int×Unit×Unit)⊕T1R)):=λ(v0,v1,v2,v3,v4,v5,_)=>
bif decide (v2 < v1) then ((d9 v2).bind λx0=>
(dM v0 x0).bind λx1=>
let x2:=dN x1.length;
bif (x2==0) then (some (.inr (.inl (1,(),())))) else
(fU x1 32).bind λ(x3,_)=>
bif (!x3) then (some (.inr (.inl (1,(),())))) else
(jE x1 v5).bind λ(x4,_)=>
let x5:=w64 (v2+1);
some (.inl (v0,v1,x5,v3,v4,x4,()))) else
some (.inr (.inr (v0,v1,v2,false,v3,v4,v5,())))
def fA:T1q->Option (T1q⊕T1P):=λ(v0,v1,v2,v3,v4,v5,_)=>
bif decide (v2 < v1) then ((d9 v2).bind λx0=>
(dM v0 x0).bind λx1=>
let x2:=wk .u8 x1.1;
let x3:=wk .u8 x1.2.1;
let x4:=wk .u8 x1.2.2.2.2.2.1;
let x5:List (Int):=[x2,x3,x4];
bif (dY 1 v5.length x5.length) then let x6:List (Int):=(List.append v5 x5);
(ge 6 x1.2.2.1 x6).bind λ(x7,_)=>
let x8:=w64 (x1.2.2.2.1+1);
(ge 2 x8 x7).bind λ(x9,_)=>
let ac:=w64 (x1.2.2.2.2.1+1);
(ge 2 ac x9).bind λ(ae,_)=>
let af:=wk .i64 x1.2.2.2.2.2.2.1;
(ge 2 af ae).bind λ(ag,_)=>
(jE x1.2.2.2.2.2.2.2 ag).bind λ(ah,_)=>
let ai:=w64 (v2+1);
some (.inl (v0,v1,ai,v3,v4,ah,())) else none) else
some (.inr (v0,v1,v2,false,v3,v4,v5,()))
def gQ(a0:List LDCn) (a1:LDTs):Option (T08):=
(let x0:=dN a0.length;
bif decide (x0 < 1) then (some (true,a0,a1,())) else
let x1:=dN a0.length;
bif decide (x1 > 4) then (some (true,a0,a1,())) else
(gM a1).bind λ(x2,_)=>
some ((!x2),a0,a1,()):Option (Bool×T0b)).bind λ(x0,x1,x2,_)=>
bif x0 then (some ([],1,())) else
let x3:=dN x1.length;
let x4:=wk .u8 x3;
let x5:=dN x1.length;
(match dU fe NN (x1,x5,0,x1,x2,[x4],()) with
| none=>none
| some (.inl (x6,x7,_))=>
some ([],x6,())
| some (.inr (x6,x7,x8,x9,ac,ae,af,_))=>
let ag:=dN ae.length;
(dU fA NN (ae,ag,0,ac,ae,af,())).bind λ(ah,ai,aj,ak,am,an,ap,_)=>
some (ap,0,()))
def sF:X.Cfg:=⟨E0,[kT,jL,tY,rY],[],[⟨2,0,qE,[(.normal,qS [zaa 1,Xaa 24] [(4,zab)])]⟩,⟨7,1,qS [zaa 1,Zaa 4 11,sP 31 (yaa d8),Uaa 32,Uaa 33] [(4,zab),(11,Xad)],[(.ret,(qS [Zaa 2 7,Uaa 3] [(7,uL [N1])])),(.exit 0,qS [zaa 1,Zaa 4 11,sP 31 (yaa d8),Uaa 32,Uaa 33,Xaa 34] [(4,zab),(11,Xad)])]⟩,⟨17,2,qS [Zaa 4 11,sP 50 (yaa gi),Uaa 51,Uaa 52] [(4,zab),(11,Xad)],[(.exit 2,qS [Zaa 4 11,sP 50 (yaa gi),Uaa 51,Uaa 52,Xaa 53] [(4,zab),(11,Xad)])]⟩]⟩
def ml:Ctr:=⟨12,148,[.agg zab],[],[⟨uak,[.one,.one],[]⟩],ap2 gQ⟩
theorem sB:Lk 10 ml:=ls sF (aC oR (aC lR (aC yH (aC vl aN))))
def iv:T0g->Option (T0g⊕T0w):=λ(v0,v1,v2,_)=>
bif decide (v1 > 0) then (let x0:Int:=(w64 (v1 - 1));
let x1:=w64 (8*x0);
let x2:=wk .u64 x1;
(d9 x2).bind λx3=>
let x4:Int:=(shR .shr .i64 v0 x3);
let x5:=wk .u8 x4;
bif (dY 1 v2.length (List.length [x5])) then let x6:List (Int):=(List.append v2 [x5]);
let x7:=w64 (v1 - 1);
some (.inl (v0,x7,x6,())) else none) else
some (.inr (v0,v1,false,v2,()))
def fv(a0:Int) (a1:Int):Option (LI×Unit):=
(dU iv NN (a0,a1,[],())).bind λ(x0,x1,x2,x3,_)=>
some (x3,())
def Cq:X.Cfg:=⟨E0,[],[],[(lx 3 0 [Uaa 0,Uaa 1,Zaa 5 13] [(13,Xad)] 7)]⟩
def qf:Ctr:=⟨43,149,Uac,[],[⟨Xad,[.one],[]⟩],ap2 fv⟩
theorem uI:Lk 1 qf:=ls Cq aN
def oF:T0G->Option (T0G⊕(LDCn×T0w)):=λ(v0,v1,v2,v3,_)=>
bif decide (v2 < v1) then (((d9 v2).bind λx0=>
(dM v0 x0).bind λx1=>
bif (x1.1==1) then (let x2:Int:=(w64 (x1.2.2.1+1));
let x3:=wk .u8 x2;
let x4:List (Int):=[x1.1,x3];
bif (dY 1 v3.length x4.length) then let x5:List (Int):=(List.append v3 x4);
(fv x1.2.2.2 2).bind λ(x6,_)=>
bif (dY 1 x5.length x6.length) then let x7:List (Int):=(List.append x5 x6);
some (v0,v1,v2,x7,()) else none else none) else
let x2:List (Int):=[x1.1,0];
bif (dY 1 v3.length x2.length) then let x3:List (Int):=(List.append v3 x2);
let x4:=wk .i64 x1.2.1;
(fv x4 2).bind λ(x5,_)=>
bif (dY 1 x3.length x5.length) then let x6:List (Int):=(List.append x3 x5);
some (v0,v1,v2,x6,()) else none else none:Option (T0G)).bind λ(x0,x1,x2,x3,_)=>
let x4:=w64 (x2+1);
some (.inl (x0,x1,x4,x3,()))) else
some (.inr (v0,v1,v2,false,v3,()))
def nd(a0:LDCn):Option (LI×Unit):=
let x0:=dN a0.length;
let x1:=wk .u8 x0;
let x2:=dN a0.length;
(dU oF NN (a0,x2,0,[x1],())).bind λ(x3,x4,x5,x6,x7,_)=>
some (x7,())
def GR:X.Cfg:=⟨E0,[qf],[],[⟨7,0,qE,[(.normal,qS [Zaa 3 9,sP 10 d8,Uaa 11,Uaa 12] [(9,Xad)])]⟩,(lx 4 1 [Zaa 3 9,sP 10 d8,Uaa 11,Uaa 12] [(9,Xad)] 13)]⟩
def y8:Ctr:=⟨42,150,uL [d8],[],[⟨Xad,[.one],[]⟩],ap1 nd⟩
theorem Gi:Lk 2 y8:=ls GR (aC uI aN)
def fH:T1v->Option (T1v⊕((Int×Unit×Unit)⊕T1R)):=λ(v0,v1,v2,v3,v4,v5,_)=>
bif decide (v2 < v1) then ((d9 v2).bind λx0=>
(dM v0 x0).bind λx1=>
let x2:=dN x1.length;
bif (dY 8 v5.length (List.length [x2])) then let x3:List (Int):=(List.append v5 [x2]);
(ff x1 32).bind λ(x4,_)=>
bif (!x4) then (some (.inr (.inl (1,(),())))) else
let x5:=w64 (v2+1);
some (.inl (v0,v1,x5,v3,v4,x3,())) else none) else
some (.inr (.inr (v0,v1,v2,false,v3,v4,v5,())))
def fX:T1v->Option (T1v⊕T1R):=λ(v0,v1,v2,v3,v4,v5,_)=>
bif decide (v2 < v1) then ((d9 v2).bind λx0=>
(dM v0 x0).bind λx1=>
(nd x1).bind λ(x2,_)=>
bif (dY 1 v5.length x2.length) then let x3:List (Int):=(List.append v5 x2);
let x4:=w64 (v2+1);
some (.inl (v0,v1,x4,v3,v4,x3,())) else none) else
some (.inr (v0,v1,v2,false,v3,v4,v5,()))
def fW:T1q->Option (T1q⊕T1P):=λ(v0,v1,v2,v3,v4,v5,_)=>
bif decide (v2 < v1) then ((d9 v2).bind λx0=>
(dM v0 x0).bind λx1=>
let x2:=wk .u8 x1.1;
let x3:=wk .u8 x1.2.1;
let x4:=wk .u8 x1.2.2.2.2.2.1;
let x5:List (Int):=[x2,x3,x4];
bif (dY 1 v5.length x5.length) then let x6:List (Int):=(List.append v5 x5);
(fv x1.2.2.1 6).bind λ(x7,_)=>
bif (dY 1 x6.length x7.length) then let x8:List (Int):=(List.append x6 x7);
let x9:=w64 (x1.2.2.2.1+1);
(fv x9 2).bind λ(ac,_)=>
bif (dY 1 x8.length ac.length) then let ae:List (Int):=(List.append x8 ac);
let af:=w64 (x1.2.2.2.2.1+1);
(fv af 2).bind λ(ag,_)=>
bif (dY 1 ae.length ag.length) then let ah:List (Int):=(List.append ae ag);
let ai:=wk .i64 x1.2.2.2.2.2.2.1;
(fv ai 2).bind λ(aj,_)=>
bif (dY 1 ah.length aj.length) then let ak:List (Int):=(List.append ah aj);
(nd x1.2.2.2.2.2.2.2).bind λ(am,_)=>
bif (dY 1 ak.length am.length) then let an:List (Int):=(List.append ak am);
let ap:=w64 (v2+1);
some (.inl (v0,v1,ap,v3,v4,an,())) else none else none else none else none else none else none) else
some (.inr (v0,v1,v2,false,v3,v4,v5,()))
def hJ(a0:List LDCn) (a1:LDTs):Option (T08):=
let x0:=dN a0.length;
(match dU fH NN (a0,x0,0,a0,a1,[],()) with
| none=>none
| some (.inl (x1,x2,_))=>
some ([],x1,())
| some (.inr (x1,x2,x3,x4,x5,x6,x7,_))=>
(fS x7).bind λ(x8,_)=>
bif (!x8) then (some ([],1,())) else
(gK x6).bind λ(x9,_)=>
bif (!x9) then (some ([],1,())) else
let ac:=dN x7.length;
let ae:=wk .u8 ac;
let af:=dN x5.length;
(dU fX NN (x5,af,0,x5,x6,[ae],())).bind λ(ag,ah,ai,aj,ak,am,an,_)=>
let ap:=dN am.length;
(dU fW NN (am,ap,0,ak,am,an,())).bind λ(aq,av,ax,ay,az,aA,aB,_)=>
some (aB,0,()))
def wy:X.Cfg:=⟨E0,[gD,l9,o4,y8,qf],[],[⟨4,0,qS [zaa 1,Zaa 4 11,sP 13 (yaa d8),Uaa 14,Uaa 15] [(4,zab),(11,zae)],[(.ret,(qS [Zaa 2 7,Uaa 3] [(7,uL [N1])])),(.exit 0,qS [zaa 1,Zaa 4 11,sP 13 (yaa d8),Uaa 14,Uaa 15,Xaa 16] [(4,zab),(11,zae)])]⟩,⟨18,1,qS [zaa 1,Zaa 7 17,sP 42 (yaa d8),Uaa 43,Uaa 44] [(4,zab),(17,Xad)],[(.exit 2,qS [zaa 1,Zaa 7 17,sP 42 (yaa d8),Uaa 43,Uaa 44,Xaa 45] [(4,zab),(17,Xad)])]⟩,⟨25,2,qS [Zaa 7 17,sP 54 (yaa gi),Uaa 55,Uaa 56] [(4,zab),(17,Xad)],[(.exit 4,qS [Zaa 7 17,sP 54 (yaa gi),Uaa 55,Uaa 56,Xaa 57] [(4,zab),(17,Xad)])]⟩]⟩
def pZ:Ctr:=⟨13,151,[.agg zab],[],[⟨uak,[.one,.one],[]⟩],ap2 hJ⟩
theorem wd:Lk 4 pZ:=ls wy (aC ic (aC oc (aC to (aC Gi (aC uI aN)))))
def xt:T0N->Option (T0N⊕((Bool×Unit)⊕(LI×T0L))):=λ(v0,v1,v2,v3,_)=>
bif decide (v3 < v2) then ((d9 v3).bind λx0=>
(dM v1 x0).bind λx1=>
bif decide (x1 < 1) then (some (.inr (.inl (false,())))) else
bif decide (x1 > 32) then (some (.inr (.inl (false,())))) else
let x2:=w64 (v3+1);
some (.inl (v0,v1,v2,x2,()))) else
some (.inr (.inr (v0,v1,v2,v3,false,())))
def p9(a0:List (Int)):Option (Bool×Unit):=
let x0:=dN a0.length;
(match dU xt NN (a0,a0,x0,0,()) with
| none=>none
| some (.inl (x1,_))=>
some (x1,())
| some (.inr (x1,_))=>
let x6:=dN x1.length;
bif decide (x6>=1) then (let x7:Int:=(dN x1.length);
some ((decide (x7<=4)),())) else
some (false,()))
def Cl:X.Cfg:=⟨E0,[],[],[⟨3,0,qS [sP 0 RI,sP 5 RI,Uaa 6,Uaa 7] [],[(.ret,qS [Xaa 2] []),(.exit 0,qS [sP 0 RI,sP 5 RI,Uaa 6,Uaa 7,Xaa 8] [])]⟩]⟩
def uP:Ctr:=⟨95,152,uL [RI],[],[⟨yab,[.one],[]⟩],ap1 p9⟩
theorem B4:Lk 1 uP:=ls Cl aN
def qa(a0:Int):Option (T0t):=
(bif (a0==1) then (some (a0,true,false,false,false,false,())) else
bif (a0==15) then (some (a0,true,false,false,false,false,())) else
bif (a0==19) then (some (a0,true,false,false,false,false,())) else
bif (a0==20) then (some (a0,true,false,false,false,false,())) else
some (a0,(a0==21),false,false,false,false,()):Option (Int×Bool×T0t)).bind λ(x0,x1,_)=>
bif x1 then (some (true,false,false,true,())) else
bif (x0==2) then (some (true,true,false,false,())) else
bif (x0==16) then (some (true,true,false,true,())) else
bif (x0==17) then (some (true,true,false,true,())) else
bif (x0==18) then (some (false,false,false,true,())) else
bif (x0==23) then (some (false,false,false,true,())) else
bif (x0==22) then (some (true,false,false,false,())) else
bif (x0==0) then (some (false,false,false,false,())) else
bif (x0==24) then (some (false,false,false,false,())) else
some (true,true,true,false,())
def CC:X.Cfg:=⟨E0,[],[],[⟨3,0,qE,[(.normal,qS [zaa 2,Uaa 3,Xaa 4] [(6,Uag)])]⟩]⟩
def uZ:Ctr:=⟨139,153,Xac,[],[⟨Uag,[.agg 4],[]⟩],ap1 qa⟩
theorem Ce:Lk 1 uZ:=ls CC aN
def gL(a0:Bool) (a1:Int) (a2:Int):Option (Bool×Unit):=
bif (a1==0) then (some (true,())) else
bif a0 then (bif decide (a1 > 0) then (some ((decide (a1<=a2)),())) else
some (false,())) else
some (false,())
def Bg:X.Cfg:=⟨E0,[],[],[]⟩
def tX:Ctr:=⟨140,154,uL [.bool,I64,I64],[],[⟨yab,[.one],[]⟩],ap3 gL⟩
theorem AY:Lk 1 tX:=ls Bg aN
def nZ(a0:Int):Option (Bool×Unit):=
bif (a0==18) then (some (true,())) else
bif (a0==19) then (some (true,())) else
bif (a0==20) then (some (true,())) else
some ((a0==21),())
def E3:X.Cfg:=⟨E0,[],[],[]⟩
def rX:Ctr:=⟨97,155,Xac,[],[⟨yab,[.one],[]⟩],ap1 nZ⟩
theorem wn:Lk 1 rX:=ls E3 aN
def pI(a0:Int):Option (Int×Unit):=
(nZ a0).bind λ(x0,_)=>
bif x0 then (some (63,())) else
bif (a0==15) then (some (3,())) else
bif (a0==23) then (some (15,())) else
some (65535,())
def He:X.Cfg:=⟨E0,[rX],[],[]⟩
def zh:Ctr:=⟨141,156,Xac,[],[⟨Xac,[.one],[]⟩],ap1 pI⟩
theorem Gr:Lk 2 zh:=ls He (aC wn aN)
def lK(a0:Int) (a1:Int) (a2:Int) (a3:Int) (a4:Int):Option (Bool×Unit):=
bif decide (a0 < 0) then (some (false,())) else
bif decide (a0 > 24) then (some (false,())) else
(qa a0).bind λ(x0,x1,x2,x3,_)=>
(gL x0 a1 7).bind λ(x4,_)=>
bif x4 then ((gL x1 a2 7).bind λ(x5,_)=>
bif x5 then ((gL x2 a3 7).bind λ(x6,_)=>
bif x6 then ((pI a0).bind λ(x7,_)=>
(gL x3 a4 x7).bind λ(x8,_)=>
some (x8,())) else
some (false,())) else
some (false,())) else
some (false,())
def E2:X.Cfg:=⟨E0,[uZ,tX,zh],[],[]⟩
def w9:Ctr:=⟨96,157,[.agg Zad],[],[⟨yab,[.one],[]⟩],ap5 lK⟩
theorem Eh:Lk 3 w9:=ls E2 (aC Ce (aC AY (aC Gr aN)))
def kQ:T1z->Option (T1z⊕((Int×Unit)⊕T1S)):=λ(v0,v1,v2,v3,v4,v5,_)=>
bif decide (v2 < v1) then ((d9 v2).bind λx0=>
(dM v0 x0).bind λx1=>
let x2:=dN x1.length;
(d9 v2).bind λx3=>
(dM v4 x3).bind λx4=>
bif decide (x2 > x4) then (some (.inr (.inl (1,())))) else
let x5:=w64 (v2+1);
some (.inl (v0,v1,x5,v3,v4,v5,()))) else
some (.inr (.inr (v0,v1,v2,false,v3,v4,v5,())))
def kP:T1L->Option (T1L⊕((Int×Unit)⊕T25)):=λ(v0,v1,v2,v3,v4,v5,v6,_)=>
bif decide (v3 < v2) then ((match ((d9 v3).bind λx0=>
(dM v1 x0).bind λx1=>
(lK x1.1 x1.2.1 x1.2.2.1 x1.2.2.2.1 x1.2.2.2.2).bind λ(x2,_)=>
bif (!x2) then (some (.inl (5,()))) else
((nZ x1.1).bind λ(x3,_)=>
bif x3 then (let x4:Int:=(dN v4.length);
bif decide (x1.2.2.2.2>=x4) then (some (v0,v1,v2,v3,true,v4,v5,v6,())) else
bif (x1.1==15) then (let x5:Int:=(dN v5.length);
some (v0,v1,v2,v3,(decide (x1.2.2.2.2>=x5)),v4,v5,v6,())) else
some (v0,v1,v2,v3,false,v4,v5,v6,())) else
bif (x1.1==15) then (let x4:Int:=(dN v5.length);
some (v0,v1,v2,v3,(decide (x1.2.2.2.2>=x4)),v4,v5,v6,())) else
some (v0,v1,v2,v3,false,v4,v5,v6,()):Option (T25)).bind λ(x3,x4,x5,x6,x7,x8)=>
bif x7 then (some (.inr (6,x4,x5,x6,x8))) else
some (.inr (x3,x4,x5,x6,x8)):Option ((Int×Unit)⊕T1L)) with
| none=>none
| some (.inl (x0,_))=>
some (.inr (.inl (x0,())))
| some (.inr (x0,x1,x2,x3,x4,x5,x6,_))=>
let x7:=w64 (x3+1);
some (.inl (x0,x1,x2,x7,x4,x5,x6,())))) else
some (.inr (.inr (v0,v1,v2,v3,false,v4,v5,v6,())))
def lM(a0:LDIn) (a1:List (Int)) (a2:List LI):Option (Int×Unit):=
(p9 a1).bind λ(x0,_)=>
bif (!x0) then (some (1,())) else
let x1:=dN a2.length;
let x2:=dN a1.length;
bif (x1 != x2) then (some (1,())) else
let x3:=dN a2.length;
(match dU kQ NN (a2,x3,0,a0,a1,a2,()) with
| none=>none
| some (.inl (x4,_))=>
some (x4,())
| some (.inr (x4,x5,x6,x7,x8,x9))=>
let ae:=dN x8.length;
bif (ae==0) then (some (3,())) else
let af:=dN x8.length;
bif decide (af > 64) then (some (3,())) else
let ag:=dN x8.length;
(match dU kP NN (0,x8,ag,0,x8,x9) with
| none=>none
| some (.inl (ah,_))=>
some (ah,())
| some (.inr (ah,_))=>
some (ah,())))
def E5:X.Cfg:=⟨E0,[uP,w9,rX],[],[⟨6,0,qS [zaa 1,sP 22 (yaa RW),Uaa 23,Uaa 24] [(4,uab)],[(.ret,qS [Uaa 2] []),(.exit 0,qS [zaa 1,sP 22 (yaa RW),Uaa 23,Uaa 24,Xaa 25] [(4,uab)])]⟩,⟨27,1,qE,[(.normal,qS [zaa 1,Uaa 5,sP 49 fk,Uaa 50,Uaa 51,Xaa 81] [(4,uab)])]⟩,⟨22,2,qE,[(.ret,qS [Uaa 2] []),(.normal,qS [zaa 1,Uaa 5,sP 49 fk,Uaa 50,Uaa 51] [(4,uab)])]⟩,⟨19,3,qS [zaa 1,Uaa 5,sP 49 fk,Uaa 50,Uaa 51] [(4,uab)],[(.ret,qS [Uaa 2] []),(.exit 2,qS [zaa 1,Uaa 5,sP 49 fk,Uaa 50,Uaa 51,Xaa 52] [(4,uab)])]⟩]⟩
def xe:Ctr:=⟨44,158,[.agg uab],[],[⟨Xac,[.one],[]⟩],ap3 lM⟩
theorem Ej:Lk 4 xe:=ls E5 (aC B4 (aC Eh (aC wn aN)))
def fL:T2a->Option (T2a⊕((Bool×Unit)⊕T2r)):=λ(v0,v1,v2,v3,v4,v5)=>
bif decide (v2 < v1) then ((d9 v2).bind λx0=>
(dM v0 x0).bind λx1=>
let x2:=dN x1.length;
(d9 v2).bind λx3=>
(dM v4 x3).bind λx4=>
bif (x2 != x4) then (some (.inr (.inl (false,())))) else
(d9 v2).bind λx5=>
(dM v4 x5).bind λx6=>
(fU x1 x6).bind λ(x7,_)=>
bif (!x7) then (some (.inr (.inl (false,())))) else
let x8:=w64 (v2+1);
some (.inl (v0,v1,x8,v3,v4,v5))) else
some (.inr (.inr (v0,v1,v2,false,v3,v4,v5)))
def jU(a0:LDIn) (a1:List (Int)) (a2:List LI) (a3:List LDCn) (a4:LDTs):Option (Bool×Unit):=
(lM a0 a1 a2).bind λ(x0,_)=>
bif (x0 != 0) then (some (false,())) else
let x1:=dN a3.length;
let x2:=dN a1.length;
bif (x1 != x2) then (some (false,())) else
let x3:=dN a3.length;
(match dU fL NN (a3,x3,0,a0,a1,a2,a3,a4,()) with
| none=>none
| some (.inl (x4,_))=>
some (x4,())
| some (.inr (x4,x5,x6,x7,x8,x9,ac,ae,af,_))=>
(gM af).bind λ(ag,_)=>
some (ag,()))
def xY:X.Cfg:=⟨E0,[xe,jL,kT],[],[⟨6,0,qS [zaa 2,zaa 3,sP 20 (yaa d8),Uaa 21,Uaa 22] [(6,uab),(8,zab)],[(.ret,qS [Xaa 4] []),(.exit 0,qS [zaa 2,zaa 3,sP 20 (yaa d8),Uaa 21,Uaa 22,Xaa 23] [(6,uab),(8,zab)])]⟩]⟩
def qU:Ctr:=⟨14,159,[.agg uab,.agg zab],[],[⟨yab,[.one],[]⟩],ap5 jU⟩
theorem xQ:Lk 10 qU:=ls xY (aC Ej (aC lR (aC oR aN)))
def jl(a0:Int) (a1:Int) (a2:Int) (a3:Int):Option (Bool×Unit):=
bif (a0==1) then (some ((a2==(-1)),())) else
some (false,())
def wz:X.Cfg:=⟨E0,[],[],[]⟩
def p5:Ctr:=⟨47,160,[.agg Uaf],[],[⟨yab,[.one],[]⟩],ap4 jl⟩
theorem wo:Lk 1 p5:=ls wz aN
def fE:T0l->Option (T0l⊕((Int×Unit)⊕T0F)):=λ(v0,v1,v2,_)=>
bif decide (v2 < v1) then ((d9 v2).bind λx0=>
(dM v0 x0).bind λx1=>
(jl x1.1 x1.2.1 x1.2.2.1 x1.2.2.2).bind λ(x2,_)=>
bif x2 then (some (.inr (.inl (v2,())))) else
let x3:=w64 (v2+1);
some (.inl (v0,v1,x3,()))) else
some (.inr (.inr (v0,v1,v2,false,())))
def gT(a0:LDCn):Option (Int×Unit):=
let x0:=dN a0.length;
(match dU fE NN (a0,x0,0,()) with
| none=>none
| some (.inl (x1,_))=>
some (x1,())
| some (.inr (x1,_))=>
some ((-1),()))
def pi:X.Cfg:=⟨E0,[p5],[],[⟨3,0,(qS [sP 0 d8,(1,.fn 47 []),Uaa 7,Uaa 8] []),[(.ret,qS [Uaa 4] []),(.exit 0,(qS [sP 0 d8,(1,.fn 47 []),Uaa 7,Uaa 8,Xaa 9] []))]⟩]⟩
def jZ:Ctr:=⟨138,161,[shU d8,.fn 47 []],[],[⟨Xac,[.one],[]⟩],ap1 gT⟩
theorem pb:Lk 2 jZ:=ls pi (aC wo aN)
def fb(a0:LDCn):Option (Bool×Unit):=
(gT a0).bind λ(x0,_)=>
some ((decide (x0>=0)),())
def nH:X.Cfg:=⟨E0,[jZ],[],[]⟩
def gg:Ctr:=⟨90,162,[shU d8,.fn 47 []],[],[⟨yab,[.one],[]⟩],ap1 fb⟩
theorem jb:Lk 3 gg:=ls nH (aC pb aN)
def jG(a0:LDCn):Option (Bool×Unit):=
(fb a0).bind λ(x0,_)=>
some (x0,())
def tC:X.Cfg:=⟨E0,[gg],[],[]⟩
def ny:Ctr:=⟨101,163,[shU d8,.ip [.fn 47 []]],[],[⟨yab,[.one],[]⟩],ap1 jG⟩
theorem tw:Lk 4 ny:=ls tC (aC jb aN)
def fD:T0r->Option (T0r⊕((Int×Unit)⊕(LLCn×T0e))):=λ(v0,v1,v2,_)=>
bif decide (v2 < v1) then ((d9 v2).bind λx0=>
(dM v0 x0).bind λx1=>
(jG x1).bind λ(x2,_)=>
bif x2 then (some (.inr (.inl (v2,())))) else
let x3:=w64 (v2+1);
some (.inl (v0,v1,x3,()))) else
some (.inr (.inr (v0,v1,v2,false,())))
def gS(a0:List LDCn):Option (Int×Unit):=
let x0:=dN a0.length;
(match dU fD NN (a0,x0,0,()) with
| none=>none
| some (.inl (x1,_))=>
some (x1,())
| some (.inr (x1,_))=>
some ((-1),()))
def ph:X.Cfg:=⟨E0,[ny],[],[⟨3,0,(qS [sP 0 (yaa d8),(1,.fn 101 [.ip [.fn 47 []]]),Uaa 7,Uaa 8] []),[(.ret,qS [Uaa 4] []),(.exit 0,(qS [sP 0 (yaa d8),(1,.fn 101 [.ip [.fn 47 []]]),Uaa 7,Uaa 8,Xaa 9] []))]⟩]⟩
def jY:Ctr:=⟨143,164,[shU (yaa d8),.fn 101 [.ip [.fn 47 []]]],[],[⟨Xac,[.one],[]⟩],ap1 gS⟩
theorem pa:Lk 5 jY:=ls ph (aC tw aN)
def gd(a0:List LDCn):Option (Bool×Unit):=
(gS a0).bind λ(x0,_)=>
some ((decide (x0>=0)),())
def nG:X.Cfg:=⟨E0,[jY],[],[]⟩
def jc:Ctr:=⟨100,165,[shU (yaa d8),.fn 101 [.ip [.fn 47 []]]],[],[⟨yab,[.one],[]⟩],ap1 gd⟩
theorem nF:Lk 6 jc:=ls nG (aC pa aN)
def jF(a0:Int) (a1:Int) (a2:Int) (a3:Int) (a4:Int) (a5:Int) (a6:Int) (a7:LDCn):Option (Bool×Unit):=
(fb a7).bind λ(x0,_)=>
some (x0,())
def tB:X.Cfg:=⟨E0,[gg],[],[]⟩
def nw:Ctr:=⟨102,166,[.agg Xah,.ip [.fn 47 []]],[],[⟨yab,[.one],[]⟩],ap8 jF⟩
theorem tu:Lk 4 nw:=ls tB (aC jb aN)
def fI:T0n->Option (T0n⊕((Int×Unit)⊕T0J)):=λ(v0,v1,v2,_)=>
bif decide (v2 < v1) then ((d9 v2).bind λx0=>
(dM v0 x0).bind λx1=>
(jF x1.1 x1.2.1 x1.2.2.1 x1.2.2.2.1 x1.2.2.2.2.1 x1.2.2.2.2.2.1 x1.2.2.2.2.2.2.1 x1.2.2.2.2.2.2.2).bind λ(x2,_)=>
bif x2 then (some (.inr (.inl (v2,())))) else
let x3:=w64 (v2+1);
some (.inl (v0,v1,x3,()))) else
some (.inr (.inr (v0,v1,v2,false,())))
def ig(a0:LDTs):Option (Int×Unit):=
let x0:=dN a0.length;
(match dU fI NN (a0,x0,0,()) with
| none=>none
| some (.inl (x1,_))=>
some (x1,())
| some (.inr (x1,_))=>
some ((-1),()))
def qe:X.Cfg:=⟨E0,[nw],[],[⟨3,0,(qS [sP 0 (yaa gi),(1,.fn 102 [.ip [.fn 47 []]]),Uaa 7,Uaa 8] []),[(.ret,qS [Uaa 4] []),(.exit 0,(qS [sP 0 (yaa gi),(1,.fn 102 [.ip [.fn 47 []]]),Uaa 7,Uaa 8,Xaa 9] []))]⟩]⟩
def ko:Ctr:=⟨133,167,[shU (yaa gi),.fn 102 [.ip [.fn 47 []]]],[],[⟨Xac,[.one],[]⟩],ap1 ig⟩
theorem qd:Lk 5 ko:=ls qe (aC tu aN)
def gw(a0:LDTs):Option (Bool×Unit):=
(ig a0).bind λ(x0,_)=>
some ((decide (x0>=0)),())
def od:X.Cfg:=⟨E0,[ko],[],[]⟩
def jo:Ctr:=⟨87,168,[shU (yaa gi),.fn 102 [.ip [.fn 47 []]]],[],[⟨yab,[.one],[]⟩],ap1 gw⟩
theorem n8:Lk 6 jo:=ls od (aC qd aN)
def kR(a0:List LDCn) (a1:LDTs):Option (Bool×Unit):=
(gd a0).bind λ(x0,_)=>
bif x0 then (some (true,())) else
(gw a1).bind λ(x1,_)=>
some (x1,())
def vq:X.Cfg:=⟨E0,[jc,jo],[],[]⟩
def o5:Ctr:=⟨46,169,[.agg zab,.fn 47 []],[],[⟨yab,[.one],[]⟩],ap2 kR⟩
theorem vm:Lk 7 o5:=ls vq (aC nF (aC n8 aN))
def kN(a0:List LDCn) (a1:LDTs):Option (Bool×Unit):=
(kR a0 a1).bind λ(x0,_)=>
some (x0,())
def zJ:X.Cfg:=⟨E0,[o5],[],[]⟩
def sw:Ctr:=⟨16,170,[.agg zab],[],[⟨yab,[.one],[]⟩],ap2 kN⟩
theorem zB:Lk 8 sw:=ls zJ (aC vm aN)
def ix:Int×Int×LDCn×T0h->Option ((Int×Int×LDCn×T0h)⊕((Bool×Unit)⊕T1H)):=λ(v0,v1,v2,v3,v4,v5,_)=>
bif decide (v4 < v3) then ((match ((d9 v4).bind λx0=>
(dM v2 x0).bind λx1=>
bif (x1.1==1) then (bif (x1.2.2.1==(-1)) then (some (.inl (true,()))) else
some (.inr (v0,v1,v2,v3,v4,false,v5,()))) else
some (.inr (v0,v1,v2,v3,v4,false,v5,())):Option ((Bool×Unit)⊕T1H)) with
| none=>none
| some (.inl (x0,_))=>
some (.inr (.inl (x0,())))
| some (.inr (x0,x1,x2,x3,x4,x5,x6,_))=>
let x7:=w64 (x4+1);
some (.inl (x0,x1,x2,x3,x7,x6,())))) else
some (.inr (.inr (v0,v1,v2,v3,v4,false,v5,())))
def iw:T0h->Option (T0h⊕((Bool×Unit)⊕T0x)):=λ(v0,v1,v2,_)=>
bif decide (v1 < v0) then ((d9 v1).bind λx0=>
(dM v2 x0).bind λx1=>
(dM v2 x0).bind λx2=>
let x3:=dN x2.length;
(match dU ix NN (v0,v1,x2,x3,0,v2,()) with
| none=>none
| some (.inl (x4,_))=>
some (.inr (.inl (x4,())))
| some (.inr (x4,x5,x6,x7,x8,x9,ac,_))=>
let ae:=w64 (x5+1);
some (.inl (x4,ae,ac,())))) else
some (.inr (.inr (v0,v1,false,v2,())))
def pD(a0:List LDCn) (a1:LDTs):Option (Bool×Unit):=
(iV a0 a1).bind λ(x0,_)=>
let x1:=dN x0.length;
(match dU iw NN (x1,0,x0,()) with
| none=>none
| some (.inl (x2,_))=>
some (x2,())
| some (.inr (x2,_))=>
some (false,()))
def GO:X.Cfg:=⟨E0,[rO],[],[⟨12,0,qE,[(.ret,qS [Xaa 2] []),(.normal,qS [Zaa 8 19,Uaa 9,Uaa 10,sP 14 d8,Uaa 15,Uaa 16,Xaa 27] [(19,zag)])]⟩,⟨9,1,qS [Zaa 8 19,Uaa 9,Uaa 10,sP 14 d8,Uaa 15,Uaa 16] [(19,zag)],[(.ret,qS [Xaa 2] []),(.exit 2,qS [Zaa 8 19,Uaa 9,Uaa 10,sP 14 d8,Uaa 15,Uaa 16,Xaa 17] [(19,zag)])]⟩,⟨3,2,qS [Zaa 8 19,Uaa 9,Uaa 10] [(19,zag)],[(.ret,qS [Xaa 2] []),(.exit 0,qS [Zaa 8 19,Uaa 9,Uaa 10,Xaa 11] [(19,zag)])]⟩]⟩
def yY:Ctr:=⟨17,171,[.agg zab],[],[⟨yab,[.one],[]⟩],ap2 pD⟩
theorem Gf:Lk 2 yY:=ls GO (aC vY aN)
def fm:T0H->Option (T0H⊕((Bool×Unit)⊕(LDCn×T0F))):=λ(v0,v1,v2,v3,_)=>
bif decide (v3 < v2) then ((d9 v3).bind λx0=>
(dM v0 x0).bind λx1=>
(d9 v3).bind λx2=>
(dM v1 x2).bind λx3=>
let x4:Bool:=(!((x1.1==x3.1) && ((x1.2.1==x3.2.1) && ((x1.2.2.1==x3.2.2.1) && ((x1.2.2.2==x3.2.2.2) && true)))));
bif x4 then (some (.inr (.inl (false,())))) else
let x5:=w64 (v3+1);
some (.inl (v0,v1,v2,x5,()))) else
some (.inr (.inr (v0,v1,v2,v3,false,())))
def fK(a0:LDCn) (a1:LDCn):Option (Bool×Unit):=
let x0:=dN a0.length;
let x1:=dN a1.length;
bif (x0 != x1) then (some (false,())) else
let x2:=dN a0.length;
(match dU fm NN (a0,a1,x2,0,()) with
| none=>none
| some (.inl (x3,_))=>
some (x3,())
| some (.inr (x3,_))=>
some (true,()))
def uA:X.Cfg:=⟨E0,[],[],[⟨6,0,qS [sP 0 d8,sP 1 d8,Uaa 12,Uaa 13] [],[(.ret,qS [Xaa 4] []),(.exit 0,qS [sP 0 d8,sP 1 d8,Uaa 12,Uaa 13,Xaa 14] [])]⟩]⟩
def j7:Ctr:=⟨52,172,uL [d8,d8],[],[⟨yab,[.one],[]⟩],ap2 fK⟩
theorem nL:Lk 1 j7:=ls uA aN
def eU:LLCn×T0r->Option ((LLCn×T0r)⊕((Bool×Unit)⊕(LLCn×LLCn×T0e))):=λ(v0,v1,v2,v3,_)=>
bif decide (v3 < v2) then ((d9 v3).bind λx0=>
(dM v1 x0).bind λx1=>
(d9 v3).bind λx2=>
(dM v0 x2).bind λx3=>
(fK x1 x3).bind λ(x4,_)=>
bif (!x4) then (some (.inr (.inl (false,())))) else
let x5:=w64 (v3+1);
some (.inl (v0,v1,v2,x5,()))) else
some (.inr (.inr (v0,v1,v2,v3,false,())))
def f8(a0:List LDCn) (a1:List LDCn):Option (Bool×Unit):=
let x0:=dN a0.length;
let x1:=dN a1.length;
bif (x0 != x1) then (some (false,())) else
let x2:=dN a0.length;
(match dU eU NN (a1,a0,x2,0,()) with
| none=>none
| some (.inl (x3,_))=>
some (x3,())
| some (.inr (x3,_))=>
some (true,()))
def qM:X.Cfg:=⟨E0,[j7],[],[⟨6,0,(qS [sP 1 (yaa d8),(2,.fn 52 []),sP 15 (yaa d8),Uaa 16,Uaa 17] []),[(.ret,qS [Xaa 6] []),(.exit 0,(qS [sP 1 (yaa d8),(2,.fn 52 []),sP 15 (yaa d8),Uaa 16,Uaa 17,Xaa 18] []))]⟩]⟩
def lc:Ctr:=⟨53,173,[shU (yaa d8),shU (yaa d8),.fn 52 []],[],[⟨yab,[.one],[]⟩],ap2 f8⟩
theorem qH:Lk 2 lc:=ls qM (aC nL aN)
def sA:LDCe×T0k->Option ((LDCe×T0k)⊕((Bool×Unit)⊕(LDCe×T0E))):=λ(v0,v1,v2,v3,_)=>
bif decide (v3 < v2) then ((d9 v3).bind λx0=>
(dM v0 x0).bind λx1=>
(d9 v3).bind λx2=>
(dM v1 x2).bind λx3=>
bif (!((x1.1==x3.1) && ((x1.2==x3.2) && true))) then (some (.inr (.inl (false,())))) else
let x4:=w64 (v3+1);
some (.inl (v0,v1,v2,x4,()))) else
some (.inr (.inr (v0,v1,v2,v3,false,())))
def oA(a0:LDCe) (a1:LDCe):Option (Bool×Unit):=
let x0:=dN a0.length;
let x1:=dN a1.length;
bif (x0 != x1) then (some (false,())) else
let x2:=dN a0.length;
(match dU sA NN (a0,a1,x2,0,()) with
| none=>none
| some (.inl (x3,_))=>
some (x3,())
| some (.inr (x3,_))=>
some (true,()))
def vo:X.Cfg:=⟨E0,[],[],[⟨6,0,qS [sP 0 fi,sP 1 fi,Uaa 12,Uaa 13] [],[(.ret,qS [Xaa 4] []),(.exit 0,qS [sP 0 fi,sP 1 fi,Uaa 12,Uaa 13,Xaa 14] [])]⟩]⟩
def oZ:Ctr:=⟨144,174,uL [fi,fi],[],[⟨yab,[.one],[]⟩],ap2 oA⟩
theorem vj:Lk 1 oZ:=ls vo aN
def ve(a0:LDCe) (a1:LDCe):Option (Bool×Unit):=
(oA a0 a1).bind λ(x0,_)=>
some (x0,())
def IC:X.Cfg:=⟨E0,[oZ],[],[]⟩
def BC:Ctr:=⟨103,175,uL [fi,fi],[],[⟨yab,[.one],[]⟩],ap2 ve⟩
theorem Ip:Lk 2 BC:=ls IC (aC vj aN)
def q9(a0:Int) (a1:LDCe) (a2:Int) (a3:Int) (a4:Int) (a5:Int) (a6:Int) (a7:Int) (a8:Int) (a9:LDCe) (a10:Int) (a11:Int) (a12:Int) (a13:Int) (a14:Int) (a15:Int):Option (Bool×Unit):=
bif (a0==a8) then (bif (a2==a10) then (bif (a3==a11) then (bif (a4==a12) then (bif (a5==a13) then (bif (a6==a14) then (bif (a7==a15) then ((ve a1 a9).bind λ(x0,_)=>
some (x0,())) else
some (false,())) else
some (false,())) else
some (false,())) else
some (false,())) else
some (false,())) else
some (false,())) else
some (false,())
def Ep:X.Cfg:=⟨E0,[BC],[],[]⟩
def wK:Ctr:=⟨50,176,[.agg Uad,.agg Uad],[],[⟨yab,[.one],[]⟩],ap16 q9⟩
theorem DZ:Lk 3 wK:=ls Ep (aC Ip aN)
def jm(a0:Int) (a1:Int) (a2:Int) (a3:Int) (a4:Int) (a5:Int) (a6:Int) (a7:LDCn) (a8:Int) (a9:Int) (a10:Int) (a11:Int) (a12:Int) (a13:Int) (a14:Int) (a15:LDCn):Option (Bool×Unit):=
(gZ a0 a1 a2 a3 a4 a5 a6 a7).bind λ(x0,x1,x2,x3,x4,x5,x6,x7,_)=>
(gZ a8 a9 a10 a11 a12 a13 a14 a15).bind λ(x8,x9,ac,ae,af,ag,ah,ai,_)=>
(q9 x0 x1 x2 x3 x4 x5 x6 x7 x8 x9 ac ae af ag ah ai).bind λ(aj,_)=>
bif aj then ((fK a7 a15).bind λ(ak,_)=>
some (ak,())) else
some (false,())
def wA:X.Cfg:=⟨E0,[nJ,wK,j7],[],[]⟩
def p6:Ctr:=⟨49,177,[.agg Xah,.agg Xah],[],[⟨yab,[.one],[]⟩],ap16 jm⟩
theorem wq:Lk 4 p6:=ls wA (aC sn (aC DZ (aC nL aN)))
def eZ:T0K->Option (T0K⊕((Bool×Unit)⊕T15)):=λ(v0,v1,v2,v3,_)=>
bif decide (v3 < v2) then ((d9 v3).bind λx0=>
(dM v1 x0).bind λx1=>
(d9 v3).bind λx2=>
(dM v0 x2).bind λx3=>
(jm x1.1 x1.2.1 x1.2.2.1 x1.2.2.2.1 x1.2.2.2.2.1 x1.2.2.2.2.2.1 x1.2.2.2.2.2.2.1 x1.2.2.2.2.2.2.2 x3.1 x3.2.1 x3.2.2.1 x3.2.2.2.1 x3.2.2.2.2.1 x3.2.2.2.2.2.1 x3.2.2.2.2.2.2.1 x3.2.2.2.2.2.2.2).bind λ(x4,_)=>
bif (!x4) then (some (.inr (.inl (false,())))) else
let x5:=w64 (v3+1);
some (.inl (v0,v1,v2,x5,()))) else
some (.inr (.inr (v0,v1,v2,v3,false,())))
def gu(a0:LDTs) (a1:LDTs):Option (Bool×Unit):=
let x0:=dN a0.length;
let x1:=dN a1.length;
bif (x0 != x1) then (some (false,())) else
let x2:=dN a0.length;
(match dU eZ NN (a1,a0,x2,0,()) with
| none=>none
| some (.inl (x3,_))=>
some (x3,())
| some (.inr (x3,_))=>
some (true,()))
def rG:X.Cfg:=⟨E0,[p6],[],[⟨6,0,(qS [sP 1 (yaa gi),(2,.fn 49 []),sP 15 (yaa gi),Uaa 16,Uaa 17] []),[(.ret,qS [Xaa 6] []),(.exit 0,(qS [sP 1 (yaa gi),(2,.fn 49 []),sP 15 (yaa gi),Uaa 16,Uaa 17,Xaa 18] []))]⟩]⟩
def l6:Ctr:=⟨54,178,[shU (yaa gi),shU (yaa gi),.fn 49 []],[],[⟨yab,[.one],[]⟩],ap2 gu⟩
theorem rx:Lk 5 l6:=ls rG (aC wq aN)
def kO(a0:List LDCn) (a1:LDTs) (a2:List LDCn) (a3:LDTs):Option (Bool×Unit):=
(f8 a0 a2).bind λ(x0,_)=>
bif x0 then ((gu a1 a3).bind λ(x1,_)=>
some (x1,())) else
some (false,())
def zK:X.Cfg:=⟨E0,[lc,l6],[],[]⟩
def sx:Ctr:=⟨18,179,[.agg zab,.agg zab],[],[⟨yab,[.one],[]⟩],ap4 kO⟩
theorem zC:Lk 6 sx:=ls zK (aC qH (aC rx aN))
def fQ(a0:Int) (a1:Int) (a2:Int):Option (Bool×Unit):=
bif decide (a0>=a1) then (some ((decide (a0<=a2)),())) else
some (false,())
def xU:X.Cfg:=⟨E0,[],[],[]⟩
def qR:Ctr:=⟨145,180,Zaj,[],[⟨yab,[.one],[]⟩],ap3 fQ⟩
theorem xO:Lk 1 qR:=ls xU aN
def sO(a0:Int) (a1:Int) (a2:Int) (a3:Int) (a4:Int) (a5:Int) (a6:LDCn) (a7:LDCn):Option (Bool×Unit):=
(fQ a0 0 3).bind λ(x0,_)=>
bif x0 then ((fQ a1 0 3).bind λ(x1,_)=>
bif x1 then ((fQ a2 0 6).bind λ(x2,_)=>
bif x2 then ((fQ a3 0 1099511627776).bind λ(x3,_)=>
bif x3 then ((fQ a4 0 255).bind λ(x4,_)=>
bif x4 then ((fQ a5 0 15).bind λ(x5,_)=>
bif x5 then ((fU a6 3).bind λ(x6,_)=>
bif x6 then ((fU a7 16).bind λ(x7,_)=>
some (x7,())) else
some (false,())) else
some (false,())) else
some (false,())) else
some (false,())) else
some (false,())) else
some (false,())) else
some (false,())
def A4:X.Cfg:=⟨E0,[qR,jL],[],[]⟩
def tF:Ctr:=⟨105,181,[.agg uad],[],[⟨yab,[.one],[]⟩],ap8 sO⟩
theorem AM:Lk 6 tF:=ls A4 (aC xO (aC lR aN))
def mt(a0:Int) (a1:Int) (a2:Int) (a3:Int) (a4:Int) (a5:Int) (a6:LDCn) (a7:LDCn):Option (T08):=
(sO a0 a1 a2 a3 a4 a5 a6 a7).bind λ(x0,_)=>
bif (!x0) then (some ([],1,())) else
let x1:=wk .u8 a0;
let x2:=wk .u8 a1;
let x3:=wk .u8 a2;
let x4:List (Int):=[x1,x2,x3];
(ge 6 a3 x4).bind λ(x5,_)=>
let x6:=wk .u8 a4;
let x7:=wk .u8 a5;
let x8:List (Int):=[x6,x7];
bif (dY 1 x5.length x8.length) then let x9:List (Int):=(List.append x5 x8);
(jE a6 x9).bind λ(ac,_)=>
(jE a7 ac).bind λ(ae,_)=>
some (ae,0,()) else none
def ya:X.Cfg:=⟨E0,[tF,rY,tY],[],[]⟩
def mE:Ctr:=⟨55,182,[.agg uad],[],[⟨uak,[.one,.one],[]⟩],ap8 mt⟩
theorem qK:Lk 7 mE:=ls ya (aC AM (aC vl (aC yH aN)))
def mg(a0:Int) (a1:List (Int)) (a2:Bool):Option (LI×T07):=
bif a2 then (some ([],a1,true,())) else
let x0:=dN a1.length;
bif decide (a0 > x0) then (some ([],a1,true,())) else
(d9 a0).bind λx1=>
bif (iQ 0 x1 a1.length) then let x2:List (Int):=(m8 a1 0 (Nat.sub x1 0));
(d9 a0).bind λx3=>
bif (iQ x3 a1.length a1.length) then let x4:List (Int):=(m8 a1 x3 (Nat.sub a1.length x3));
some (x2,x4,a2,()) else none else none
def sG:X.Cfg:=⟨E0,[],[],[]⟩
def mn:Ctr:=⟨146,183,[.ptr ⟨2,0,[]⟩ [0],shU I64],[(2,Zag)],[⟨uL [(yaa CB)],[.one],[(2,Zag)]⟩],ap3 mg⟩
theorem sC:Lk 1 mn:=ls sG aN
def oK:Int×LI×T0A->Option ((Int×LI×T0A)⊕(Int×LI×Int×Int×Bool×T07)):=λ(v0,v1,v2,v3,v4)=>
bif decide (v3 < v2) then ((d9 v3).bind λx0=>
(dM v1 x0).bind λx1=>
let x2:Int:=(shR .shl .i64 v0 8);
let x3:=wk .i64 x1;
let x4:Int:=(arR .or .i64 x2 x3);
let x5:=w64 (v3+1);
some (.inl (x4,v1,v2,x5,v4))) else
some (.inr (v0,v1,v2,v3,false,v4))
def ej(a0:Int) (a1:List (Int)) (a2:Bool):Option (T0i):=
(mg a0 a1 a2).bind λ(x0,x1)=>
let x3:=dN x0.length;
(dU oK NN (0,x0,x3,0,x1)).bind λ(x4,x5,x6,x7,x8,x9)=>
some (x4,x9)
def qO:X.Cfg:=⟨E0,[mn],[],[(lx 4 0 [zaa 0,Uaa 5,sP 10 (yaa CB),Uaa 11,Uaa 12] [(2,Zag)] 13)]⟩
def gc:Ctr:=⟨106,184,[.ptr ⟨2,0,[]⟩ [0],shU I64],[(2,Zag)],[⟨Xac,[.one],[(2,Zag)]⟩],ap3 ej⟩
theorem iM:Lk 2 gc:=ls qO (aC sC aN)
def mh(a0:List (Int)) (a1:Bool):Option (Int×Int×T0A):=
(ej 1 a0 a1).bind λ(x0,x1,x2,_)=>
let x3:=wk .u8 x0;
(ej 1 x1 x2).bind λ(x4,x5,x6,_)=>
(ej 2 x5 x6).bind λ(x7,x8)=>
bif (x3==1) then (let ac:Int:=(w64 (x4 - 1));
some (x3,0,ac,x7,x8)) else
let ac:=wk .u16 x7;
some (x3,ac,x4,0,x8)
def sI:X.Cfg:=⟨E0,[gc],[],[]⟩
def mp:Ctr:=⟨147,185,[.ptr ⟨2,0,[]⟩ [0]],[(2,Zag)],[⟨Uaf,[.agg 4],[(2,Zag)]⟩],ap2 mh⟩
theorem sE:Lk 3 mp:=ls sI (aC iM aN)
def qb:Int×LI×Bool×LDCn×Unit->Option ((Int×LI×Bool×LDCn×Unit)⊕(Int×Bool×LI×Bool×LDCn×Unit)):=λ(v0,v1,v2,v3,_)=>
bif decide (v0 > 0) then (bif (!v2) then ((mh v1 v2).bind λ(x0,x1,x2,x3,x4,x5,_)=>
let x6:LDCn:=[(x0,(x1,(x2,x3)))];
bif (dY 24 v3.length x6.length) then let x7:LDCn:=(List.append v3 x6);
let x8:=w64 (v0 - 1);
some (.inl (x8,x4,x5,x7,())) else none) else
some (.inr (v0,false,v1,v2,v3,()))) else
some (.inr (v0,false,v1,v2,v3,()))
def jg(a0:List (Int)) (a1:Bool):Option (LDCn×T07):=
(ej 1 a0 a1).bind λ(x0,x1,x2,_)=>
(dU qb NN (x0,x1,x2,[],())).bind λ(x3,x4,x5,x6,x7,_)=>
some (x7,x5,x6,())
def sH:X.Cfg:=⟨E0,[gc,mp],[],[(lx 4 0 [zaa 0,Zaa 3 9,Uaa 4] [(2,Zag),(9,uag)] 15)]⟩
def mo:Ctr:=⟨107,186,[.ptr ⟨2,0,[]⟩ [0]],[(2,Zag)],[⟨uag,[.one],[(2,Zag)]⟩],ap2 jg⟩
theorem sD:Lk 4 mo:=ls sH (aC iM (aC sE aN))
def vI(a0:List (Int)) (a1:List (Int)):Option (Bool×Unit):=
let x0:ByteArray:=(CM a0);
let x1:ByteArray:=(CM a1);
some ((Qb x0 x1),())
def E4:X.Cfg:=⟨E0,[],[],[]⟩
def xd:Ctr:=⟨108,187,uL [(yaa CB),(yaa CB)],[],[⟨yab,[.one],[]⟩],ap2 vI⟩
theorem Ei:Lk 1 xd:=ls E4 aN
def sj(a0:List (Int)):Option (T2f):=
(ej 1 a0 false).bind λ(x0,x1,x2,_)=>
(ej 1 x1 x2).bind λ(x3,x4,x5,_)=>
(ej 1 x4 x5).bind λ(x6,x7,x8,_)=>
(ej 6 x7 x8).bind λ(x9,ac,ae,_)=>
(ej 1 ac ae).bind λ(af,ag,ah,_)=>
(ej 1 ag ah).bind λ(ai,aj,ak,_)=>
(jg aj ak).bind λ(am,an,ap,_)=>
(jg an ap).bind λ(aq,av,ax,_)=>
bif ax then (some (0,0,0,0,0,0,[],[],4,())) else
(mt x0 x3 x6 x9 af ai am aq).bind λ(ay,az,_)=>
(let aA:=dN av.length;
bif decide (aA > 0) then (some (true,0,0,0,0,0,0,(),(),x0,x3,x6,x9,af,ai,am,aq,())) else
bif (az != 0) then (some (true,0,0,0,0,0,0,(),(),x0,x3,x6,x9,af,ai,am,aq,())) else
(vI ay a0).bind λ(aB,_)=>
some ((!aB),0,0,0,0,0,0,(),(),x0,x3,x6,x9,af,ai,am,aq,()):Option (Bool×Int×Int×Int×Int×Int×Int×Unit×Unit×T1Y)).bind λ(aA,aB,aD,aE,aF,aG,aH,aI,aJ,aK,aL,aM,aO,aP,aQ,aR,aS,_)=>
bif aA then (some (0,0,0,0,0,0,[],[],5,())) else
some (aK,aL,aM,aO,aP,aQ,aR,aS,0,())
def zL:X.Cfg:=⟨E0,[gc,mo,mE,xd],[],[⟨10,0,qE,[(.normal,qS [zaa 2,zaa 5,Xaa 55] [(6,yag),(12,uad)])]⟩]⟩
def sy:Ctr:=⟨56,188,uL [(yaa CB)],[],[⟨uL [I64,I64,I64,I64,I64,I64,d8,d8,I64],[.agg 8,.one],[]⟩],ap1 sj⟩
theorem zD:Lk 8 sy:=ls zL (aC iM (aC sD (aC qK (aC Ei aN))))
def yo(a0:Int) (a1:Int) (a2:Int) (a3:Int) (a4:Int) (a5:Int) (a6:LDCn) (a7:LDCn) (a8:Int) (a9:Int) (a10:Int) (a11:Int) (a12:Int) (a13:Int) (a14:LDCn) (a15:LDCn):Option (Bool×Unit):=
bif (a0==a8) then (bif (a1==a9) then (bif (a2==a10) then (bif (a3==a11) then (bif (a4==a12) then (bif (a5==a13) then ((fR a6 a14).bind λ(x0,_)=>
bif x0 then ((fR a7 a15).bind λ(x1,_)=>
some (x1,())) else
some (false,())) else
some (false,())) else
some (false,())) else
some (false,())) else
some (false,())) else
some (false,())) else
some (false,())
def GU:X.Cfg:=⟨E0,[mD],[],[]⟩
def za:Ctr:=⟨57,189,[.agg uad,.agg uad],[],[⟨yab,[.one],[]⟩],ap16 yo⟩
theorem Gk:Lk 2 za:=ls GU (aC qJ aN)
def rm:Option (Bool×Unit):=
let x0:LDCn:=[(1,(0,(1,3)))];
(mt 0 1 0 0 0 10 x0 []).bind λ(x1,x2,_)=>
(sj x1).bind λ(x3,x4,x5,x6,x7,x8,x9,ac,ae,_)=>
bif (x2==0) then (bif (ae==0) then (let af:Int:=(dN x1.length);
bif (af==17) then (bif (iQ 11 16 x1.length) then let ag:List (Int):=(m8 x1 11 (Nat.sub 16 11));
let ah:ByteArray:=(CM ag);
bif (Qb ah (bytes [1,1,2,0,3])) then ((yo x3 x4 x5 x6 x7 x8 x9 ac 0 1 0 0 0 10 x0 []).bind λ(ai,_)=>
some (ai,())) else
some (false,()) else none) else
some (false,())) else
some (false,())) else
some (false,())
def E1:X.Cfg:=⟨E0,[mE,sy,za],[],[]⟩
def w8:Ctr:=⟨19,190,[],[],[⟨yab,[.one],[]⟩],λh=>rm⟩
theorem Eg:Lk 9 w8:=ls E1 (aC qK (aC zD (aC Gk aN)))
def fq:T2i->Option (T2i⊕((Bool×Unit)⊕T2w)):=λ(v0,v1,v2,v3,v4,v5,v6,v7,_)=>
bif decide (v1 < v0) then ((d9 v1).bind λx0=>
(dM v7 x0).bind λx1=>
(dM v7 x0).bind λx2=>
(gQ x2.1 x2.2).bind λ(x3,x4,_)=>
(hJ x2.1 x2.2).bind λ(x5,x6,_)=>
((jU v2 v3 v4 x2.1 x2.2).bind λ(x7,_)=>
(iW v2 v3 v4 x2.1 x2.2).bind λ(x8,_)=>
bif (!(x7==x8)) then (some (v0,v1,true,v2,v3,v4,v5,v6,v7,())) else
(kN x2.1 x2.2).bind λ(x9,_)=>
(pD x2.1 x2.2).bind λ(ac,_)=>
bif (!(x9==ac)) then (some (v0,v1,true,v2,v3,v4,v5,v6,v7,())) else
(kO v5 v6 x2.1 x2.2).bind λ(ae,_)=>
(kX v5 v6 x2.1 x2.2).bind λ(af,_)=>
bif (!(ae==af)) then (some (v0,v1,true,v2,v3,v4,v5,v6,v7,())) else
let ag:ByteArray:=(CM x3);
let ah:ByteArray:=(CM x5);
bif (!(Qb ag ah)) then (some (v0,v1,true,v2,v3,v4,v5,v6,v7,())) else
some (v0,v1,(x4 != x6),v2,v3,v4,v5,v6,v7,()):Option (T2w)).bind λ(x7,x8,x9,ac,ae,af,ag,ah,ai,_)=>
bif x9 then (some (.inr (.inl (false,())))) else
let aj:=w64 (x8+1);
some (.inl (x7,aj,ac,ae,af,ag,ah,ai,()))) else
some (.inr (.inr (v0,v1,false,v2,v3,v4,v5,v6,v7,())))
def i5(a0:List (Int)) (a1:Int) (a2:Int) (a3:Int):Option (Bool×Unit):=
(mT a0 0).bind λ(x0,x1,x2,x3,x4,x5,x6,x7,_)=>
(lA x0 x1 x2 x3 x4 x5 x6 x7).bind λ(ac,ae,_)=>
(mP ac ae a1 a2 a3).bind λ(af,ag,_)=>
(jV x0 x1 x2 x3 x4 x5 x6 x7).bind λ(ah,ai,_)=>
(kX ah ai ac ae).bind λ(aj,_)=>
bif (!aj) then (some (false,())) else
let ak:List (LLCn×LDTs):=[(ac,ae),(af,ag)];
let am:=dN ak.length;
(match dU fq NN (am,0,x0,x1,x2,ac,ae,ak,()) with
| none=>none
| some (.inl (an,_))=>
some (an,())
| some (.inr (an,_))=>
(rm).bind λ(aD,_)=>
some (aD,()))
def rH:X.Cfg:=⟨E0,[u6,rQ,uY,qV,yZ,ml,pZ,qU,rP,sw,yY,sx,w8],[(41,(.pair (uaa (uaa KCn)) (uaa yj)))],[⟨16,0,qE,[(.normal,qS [zaa 9,zaa 11,Zaa 41 85,Uaa 42,Uaa 43,Xaa 91] [(20,uab),(24,zab),(85,yak)])]⟩,⟨9,1,qS [zaa 9,zaa 11,Zaa 41 85,Uaa 42,Uaa 43] [(20,uab),(24,zab),(85,yak)],[(.ret,qS [Xaa 8] []),(.exit 0,qS [zaa 9,zaa 11,Zaa 41 85,Uaa 42,Uaa 43,Xaa 44] [(20,uab),(24,zab),(85,yak)])]⟩]⟩
def ma:Ctr:=⟨3,191,uL [RI,I64,I64,I64],[],[⟨yab,[.one],[]⟩],ap4 i5⟩
theorem k_law13_CanonicalStates:Lk 11 ma:=ls rH (aC Ci (aC we (aC Cd (aC xR (aC Gg (aC sB (aC wd (aC xQ (aC vZ (aC zB (aC Gf (aC zC (aC Eg aN)))))))))))))
end
end Go.Proofs.YtjadkocggchfnaaGreat
namespace Go.Proofs.YtjadkocggchfnaaGreat
set_option maxRecDepth 100000
noncomputable section
end
end Go.Proofs.YtjadkocggchfnaaGreat
namespace Go.Proofs.YtjadkocggchfnaaGreat
open Go.RowKit
theorem Tl:(Tryz.prog.funcs.all λfn=>!(fn.name=="runtime.NumGoroutine"))=true:=by kernel_rfl
theorem K7:t9 Tryz.prog 6:=by
 obtain⟨fn,hf,hb⟩:∃fn,Tryz.prog.funcs[6]?=some fn/\fn.body.isSome=true:=by
  have hs:(match Tryz.prog.funcs[6]? with | some fn=>fn.body.isSome | none=>false)=true:=by kernel_rfl
  cases h:Tryz.prog.funcs[6]? with
  | none=>rw[h] at hs;cases hs
  | some fn=>rw[h] at hs;exact⟨fn,rfl,hs⟩
 obtain⟨c,hc⟩:=Option.isSome_iff_exists.1 hb;refine Hv hf ?_ hc;obtain⟨hlt,he⟩:=Array.getElem?_eq_some_iff.1 hf;have:=Array.all_eq_true.1 Tl 6 hlt;rw[he] at this;simpa using this
def RY(x:Value) (w:World) (e:Ending) (w':World):Prop:=e=.returned (.pointer (some ⟨w.heap.size,0,none⟩))/\w'=w.alloc (.cells #[x,.int .i64 0] 68)
theorem Rd(x:Value) (hx:x.oneCell'=true) (w:World) :
 Calls Tryz.prog 6 #[x] w (RY x w):=by
 cases x
 all_goals first
  | (go_enter Tryz.func6,Tryz.ntmps6
     go_wp2
     go_ret
     exact⟨rfl,rfl⟩)
  | simp[Value.oneCell'] at hx
theorem e0_ok:Oe Tryz.prog E0:=by
 intro f n tm h;simp only[E0] at h;split at h
 ·rename_i e;subst e
  injection h with h
  injection h with h1 h2
  subst h1 h2;refine⟨K7,λx hx=>?_,68,λl2 w hl Zs=>?_⟩
  ·simp only[List.mem_cons,List.not_mem_nil,or_false] at hx;rcases hx with hx | hx
   ·simp_all
   ·injection hx with hx;rw[hx];rfl
  ·match l2,hl with
   | [x],_=>exact Rd x (Zs x (by simp[bxV])) w
 ·simp at h
end Go.Proofs.YtjadkocggchfnaaGreat
