/- What is written is read, what is read is written: the plain laws at hand. -/
import Derived.Test.YthodifmfamflpaaLe
